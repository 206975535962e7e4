/- The theorems that the claim uses, text behind text (part 21). -/
import Derived.Test.YtmkmpfnadcmcoaaDoorXat
set_option maxRecDepth 100000
set_option linter.unusedVariables false
set_option linter.unusedSimpArgs false
namespace Go.Proofs.YtmkmpfnadcmcoaaDoor.DitHome
open Go Go.RowKit Go.Proofs.YtmkmpfnadcmcoaaDoor.K Go.Proofs.YtmkmpfnadcmcoaaDoor.EqKit Go.Proofs.YtmkmpfnadcmcoaaDoor.ArrKit Go.Proofs.YtmkmpfnadcmcoaaDoor.HeldKit Go.Proofs.YtmkmpfnadcmcoaaDoor.GKit Go.Proofs.YtmkmpfnadcmcoaaDoor.GRow Go.Proofs.YtmkmpfnadcmcoaaDoor.DiskKit Go.Proofs.YtmkmpfnadcmcoaaDoor.RmKit Go.Proofs.YtmkmpfnadcmcoaaDoor.MapKit Go.Proofs.YtmkmpfnadcmcoaaDoor.ShaStep Go.Proofs.YtmkmpfnadcmcoaaDoor.RmRight Go.Proofs.YtmkmpfnadcmcoaaDoor.RmTab Go.Proofs.YtmkmpfnadcmcoaaDoor.RmPut Go.Proofs.YtmkmpfnadcmcoaaDoor.RmAsk Go.Proofs.YtmkmpfnadcmcoaaDoor.RmSame Go.Proofs.YtmkmpfnadcmcoaaDoor.DiskRRead Go.Proofs.YtmkmpfnadcmcoaaDoor.RmRead Go.Proofs.YtmkmpfnadcmcoaaDoor.RmReads Go.Proofs.YtmkmpfnadcmcoaaDoor.DiskAct Go.Proofs.YtmkmpfnadcmcoaaDoor.RmSpare Go.Proofs.YtmkmpfnadcmcoaaDoor.RmKeep Go.Proofs.YtmkmpfnadcmcoaaDoor.RmAliveP Go.Proofs.YtmkmpfnadcmcoaaDoor.RmWrX Go.Proofs.YtmkmpfnadcmcoaaDoor.RmWrite Go.Proofs.YtmkmpfnadcmcoaaDoor.RmPair Go.Proofs.YtmkmpfnadcmcoaaDoor.RowG Go.Proofs.YtmkmpfnadcmcoaaDoor.PtrKit Go.Proofs.YtmkmpfnadcmcoaaDoor.DitKit Go.Proofs.YtmkmpfnadcmcoaaDoor.DitAsk
theorem info_ptr (a b : Int) {s : List UInt8} (hs : s.length = 32) : (Tryd.prog.info? 37).map (·.size) = some (PC a b s).toArray.size := by rw [PtrAsk.info_p, List.size_toArray, PC_length, hs]
set_option maxHeartbeats 2000000 in
set_option maxRecDepth 100000 in
theorem home_calls (p r : Nat) (d : Dk) (m : Rm) (a b : Int) (s : List UInt8) (w : World) (hok : d.ok) (hm : m.ok) (hps : PS w p r d m) (hs : s.length = 32) (ha : (Lit.int .i64 a).wf = true) (hb : (Lit.int .i64 b).wf = true) : Calls Tryd.prog 17 #[.pointer (some ⟨p, 0, none⟩), .pointer (some ⟨r, 0, none⟩), .agg (PC a b s).toArray] w fun e w' => e = .returned (.bool (homeB d m a b s)) ∧ Fr0 w w' := by
  obtain ⟨⟨sa, sc, ca, cc, hv⟩, ra, rc, hb1, hrv⟩ := hps
  have HFO : Hid (∀ W, Fr0 w W → Calls Tryd.prog 40 #[.agg (dval d sa sc ca cc)] W fun e w' => e = .returned (.bool (formedB d)) ∧ Fr0 W w') := Lib.hid (fun W f => DiskForm.formed_calls d sa sc ca cc W hok (hv.v.keep f))
  have HRI : Hid (∀ W, Fr0 w W → Calls Tryd.prog 41 #[.agg (rval m ra rc), .int .i64 (d.S.length : Int)] W fun e w' => e = .returned (.bool (tabB m (d.S.length : Int))) ∧ Fr0 W w') := Lib.hid (fun W f => RmRight.right_calls m ra rc _ W hm (hrv.keep f) (wf_nat (Nat.le_trans hv.v.sn hv.v.sm)))
  have HPR : Hid (∀ W, Calls Tryd.prog 38 #[.agg (PC a b s).toArray] W fun e w' => e = .returned (.bool (PtrAsk.rightB a b s)) ∧ Fr0 W w') := Lib.hid (fun W => PtrAsk.right_calls a b s W hs ha hb)
  have HHF : Hid (∀ W, Calls Tryd.prog 42 #[.int .i64 (d.S.length : Int)] W fun e w' => e = .returned (.int .i64 (half (d.S.length : Int))) ∧ w' = W) := Lib.hid (fun W => half_calls _ W (wf_nat (Nat.le_trans hv.v.sn hv.v.sm)))
  have hhr := half_range (d.S.length : Int)
  have HU1 : Hid (∀ W, Calls Tryd.prog 43 #[.int .i64 a, .int .i64 (half (d.S.length : Int))] W fun e w' => e = .returned (.bool (usab a (half (d.S.length : Int)))) ∧ w' = W) := Lib.hid (fun W => DitAsk.usable_calls a _ W ha hhr)
  have HU2 : Hid (∀ W, Calls Tryd.prog 43 #[.int .i64 b, .int .i64 (half (d.S.length : Int))] W fun e w' => e = .returned (.bool (usab b (half (d.S.length : Int)))) ∧ w' = W) := Lib.hid (fun W => DitAsk.usable_calls b _ W hb hhr)
  have P0 : Hid ((PC a b s).toArray[0]? = some (.int .i64 a)) := Lib.hid rfl
  have P1 : Hid ((PC a b s).toArray[1]? = some (.int .i64 b)) := Lib.hid rfl
  have D0 : Hid ((dval d sa sc ca cc)[0]? = some (.slice sa d.S.length sc)) := Lib.hid rfl
  have HIP := Lib.hid (info_ptr a b hs)
  have HID : Hid ((Tryd.prog.info? 29).map (·.size) = some (dval d sa sc ca cc).size) := Lib.hid info_d
  have HIR : Hid ((Tryd.prog.info? 32).map (·.size) = some (rval m ra rc).size) := Lib.hid (info_r _ _)
  have hf1 : ∀ X : Array Value, Fr0 w (w.alloc (.cells X 37)) := fun X => Fr.alloc (Fr.refl _ _) _
  have HD1 := fun X : Array Value => (hf1 X).keep hv.blk (fun h => h)
  have HR1 := fun X : Array Value => (hf1 X).keep hb1 (fun h => h)
  unfold homeB
  generalize (PC a b s).toArray = X at *
  replace HD1 := Lib.hid (HD1 X)
  replace HR1 := Lib.hid (HR1 X)
  have HF1 := Lib.hid (hf1 X)
  clear hok hm hv hb1 hrv hs ha hb hhr hf1
  generalize dval d sa sc ca cc = DV0 at *
  generalize rval m ra rc = RV0 at *
  generalize half (d.S.length : Int) = h at *
  generalize usab a h = u1 at *
  generalize usab b h = u2 at *
  generalize tabB m (d.S.length : Int) = ta at *
  generalize formedB d = fo at *
  generalize PtrAsk.rightB a b s = ri at *
  have HX1 : Hid (Bk (w.alloc (.cells X 37)) w.heap.size X 37) := Lib.hid (Bk.new w _)
  cases fo with
  | false =>
    go_enter Tryd.func17, Tryd.ntmps17
    go_wp2
    refine wp_region_noPanic ?_
    refine wp_region_held_drew (S := (fun W : World => Bk W w.heap.size X 37 ∧ Bk W p DV0 29 ∧ Bk W r RV0 32 ∧ Fr0 w W)) (by kernel_rfl) (⟨Fr.keep (S := fun _ => False) (Fr.drew (Fr.refl _ _)) HX1.out (fun h => h), Fr.keep (S := fun _ => False) (Fr.drew (Fr.refl _ _)) HD1.out (fun h => h), Fr.keep (S := fun _ => False) (Fr.drew (Fr.refl _ _)) HR1.out (fun h => h), Fr.drew HF1.out⟩) (fun hHeld0 => ?_)
    refine tk0 (i := 0) (v := .pointer (some ⟨p, 0, none⟩)) rfl hHeld0 ?_
    simp only [Act.put, zA, zB, zC, zD, zE, zF]
    refine tk (i := 1) (v := .bool false) rfl (Or.inl ⟨by kernel_rfl, fun w hSw => by go_simp <;> (first | exact beq_iff_eq.1 (by assumption) | exact beq_eq_false_iff_ne.1 (by assumption) | omega)⟩) hHeld0 ?_
    simp only [Act.put, zA, zB, zC, zD, zE, zF]
    refine tk0 (i := 2) (v := .bool false) rfl hHeld0 ?_
    simp only [Act.put, zA, zB, zC, zD, zE, zF]
    refine tk0 (i := 3) (v := .pointer (some ⟨r, 0, none⟩)) rfl hHeld0 ?_
    simp only [Act.put, zA, zB, zC, zD, zE, zF]
    refine tk (i := 4) (v := .bool false) rfl (Or.inl ⟨by kernel_rfl, fun w hSw => by go_simp <;> (first | exact beq_iff_eq.1 (by assumption) | exact beq_eq_false_iff_ne.1 (by assumption) | omega)⟩) hHeld0 ?_
    simp only [Act.put, zA, zB, zC, zD, zE, zF]
    refine tk0 (i := 5) (v := .bool false) rfl hHeld0 ?_
    simp only [Act.put, zA, zB, zC, zD, zE, zF]
    refine tk0 (i := 6) (v := .bool false) rfl hHeld0 ?_
    simp only [Act.put, zA, zB, zC, zD, zE, zF]
    refine tk0 (i := 7) (v := .pointer (some ⟨p, 0, none⟩)) rfl hHeld0 ?_
    simp only [Act.put, zA, zB, zC, zD, zE, zF]
    refine tk0 (i := 8) (v := .pointer (some ⟨p, 0, none⟩)) rfl hHeld0 ?_
    simp only [Act.put, zA, zB, zC, zD, zE, zF]
    refine tk (i := 9) (v := .agg DV0) rfl (yields_row (by kernel_rfl) 29 _ rfl (p) rfl 29 DV0 (0, 0) _ (fun W h => h.2.1) Tryd.underlying29 rfl HID.out) hHeld0 ?_
    simp only [Act.put, zA, zB, zC, zD, zE, zF]
    change wpAnyH _ _ _ _ _ 20 #[true, true, true, true, true, true, true, true, true, true, false, false, false, false, false, false, false, false, false, false, false, false, false, false, false, false, false, false, false, false] _ _
    refine wpAnyH_ready (rs := [10]) (by kernel_rfl) (by simp) ?_
    refine AllReadyH.cons rfl (fun K hK => ?_) AllReadyH.nil
    simp only [zA, zB, zC]
    refine (if_pos (by kernel_rfl)).mpr ?_
    go_wp2_with fail
    refine (HFO.out _ (hHeld0).2.2.2).mono ?_
    rintro e wx0 ⟨rfl, hfx0⟩
    dsimp only
    refine hK.out _ _ (⟨hfx0.keep (hHeld0).1 (fun h => h), hfx0.keep (hHeld0).2.1 (fun h => h), hfx0.keep (hHeld0).2.2.1 (fun h => h), (hHeld0).2.2.2.then0 hfx0⟩) (fun hHeld1 => ?_)
    clear hK K hHeld0
    refine tk (i := 11) (v := .bool true) rfl (Or.inl ⟨by kernel_rfl, fun w hSw => by go_simp <;> (first | exact beq_iff_eq.1 (by assumption) | exact beq_eq_false_iff_ne.1 (by assumption) | omega)⟩) hHeld1 ?_
    simp only [Act.put, zA, zB, zC, zD, zE, zF]
    refine tk0 (i := 12) (v := .bool true) rfl hHeld1 ?_
    simp only [Act.put, zA, zB, zC, zD, zE, zF]
    refine tk0 (i := 13) (v := .bool true) rfl hHeld1 ?_
    simp only [Act.put, zA, zB, zC, zD, zE, zF]
    refine tk (i := 14) (v := undef) rfl (Or.inr ⟨by kernel_rfl, rfl⟩) hHeld1 ?_
    simp only [Act.put, zA, zB, zC, zD, zE, zF]
    refine tk (i := 15) (v := undef) rfl (Or.inr ⟨by kernel_rfl, rfl⟩) hHeld1 ?_
    simp only [Act.put, zA, zB, zC, zD, zE, zF]
    refine tk (i := 16) (v := undef) rfl (Or.inr ⟨by kernel_rfl, rfl⟩) hHeld1 ?_
    simp only [Act.put, zA, zB, zC, zD, zE, zF]
    refine tk (i := 17) (v := undef) rfl (Or.inr ⟨by kernel_rfl, rfl⟩) hHeld1 ?_
    simp only [Act.put, zA, zB, zC, zD, zE, zF]
    refine tk (i := 18) (v := undef) rfl (Or.inr ⟨by kernel_rfl, rfl⟩) hHeld1 ?_
    simp only [Act.put, zA, zB, zC, zD, zE, zF]
    refine tk (i := 19) (v := undef) rfl (Or.inr ⟨by kernel_rfl, rfl⟩) hHeld1 ?_
    simp only [Act.put, zA, zB, zC, zD, zE, zF]
    refine tk (i := 20) (v := undef) rfl (Or.inr ⟨by kernel_rfl, rfl⟩) hHeld1 ?_
    simp only [Act.put, zA, zB, zC, zD, zE, zF]
    refine tk (i := 21) (v := undef) rfl (Or.inr ⟨by kernel_rfl, rfl⟩) hHeld1 ?_
    simp only [Act.put, zA, zB, zC, zD, zE, zF]
    refine tk (i := 22) (v := undef) rfl (Or.inr ⟨by kernel_rfl, rfl⟩) hHeld1 ?_
    simp only [Act.put, zA, zB, zC, zD, zE, zF]
    refine tk (i := 23) (v := undef) rfl (Or.inr ⟨by kernel_rfl, rfl⟩) hHeld1 ?_
    simp only [Act.put, zA, zB, zC, zD, zE, zF]
    refine tk0 (i := 24) (v := .bool true) rfl hHeld1 ?_
    simp only [Act.put, zA, zB, zC, zD, zE, zF]
    refine tk0 (i := 25) (v := .bool true) rfl hHeld1 ?_
    simp only [Act.put, zA, zB, zC, zD, zE, zF]
    refine tk (i := 26) (v := undef) rfl (Or.inr ⟨by kernel_rfl, rfl⟩) hHeld1 ?_
    simp only [Act.put, zA, zB, zC, zD, zE, zF]
    refine tk (i := 27) (v := undef) rfl (Or.inr ⟨by kernel_rfl, rfl⟩) hHeld1 ?_
    simp only [Act.put, zA, zB, zC, zD, zE, zF]
    refine tk (i := 28) (v := undef) rfl (Or.inr ⟨by kernel_rfl, rfl⟩) hHeld1 ?_
    simp only [Act.put, zA, zB, zC, zD, zE, zF]
    refine tk0 (i := 29) (v := .bool true) rfl hHeld1 ?_
    simp only [Act.put, zA, zB, zC, zD, zE, zF]
    change wpAnyH _ _ _ _ _ 0 #[true, true, true, true, true, true, true, true, true, true, true, true, true, true, true, true, true, true, true, true, true, true, true, true, true, true, true, true, true, true] _ _
    refine wpAnyH_done (by kernel_rfl) ?_ _
    refine NoPanic.normal ?_
    have HEND := Lib.hid hHeld1
    clear hHeld1
    go_wp2
    go_ret
    exact ⟨rfl, HEND.out.2.2.2⟩
  | true =>
    cases ta with
    | false =>
      go_enter Tryd.func17, Tryd.ntmps17
      go_wp2
      refine wp_region_noPanic ?_
      refine wp_region_held_drew (S := (fun W : World => Bk W w.heap.size X 37 ∧ Bk W p DV0 29 ∧ Bk W r RV0 32 ∧ Fr0 w W)) (by kernel_rfl) (⟨Fr.keep (S := fun _ => False) (Fr.drew (Fr.refl _ _)) HX1.out (fun h => h), Fr.keep (S := fun _ => False) (Fr.drew (Fr.refl _ _)) HD1.out (fun h => h), Fr.keep (S := fun _ => False) (Fr.drew (Fr.refl _ _)) HR1.out (fun h => h), Fr.drew HF1.out⟩) (fun hHeld0 => ?_)
      refine tk0 (i := 0) (v := .pointer (some ⟨p, 0, none⟩)) rfl hHeld0 ?_
      simp only [Act.put, zA, zB, zC, zD, zE, zF]
      refine tk (i := 1) (v := .bool false) rfl (Or.inl ⟨by kernel_rfl, fun w hSw => by go_simp <;> (first | exact beq_iff_eq.1 (by assumption) | exact beq_eq_false_iff_ne.1 (by assumption) | omega)⟩) hHeld0 ?_
      simp only [Act.put, zA, zB, zC, zD, zE, zF]
      refine tk0 (i := 2) (v := .bool false) rfl hHeld0 ?_
      simp only [Act.put, zA, zB, zC, zD, zE, zF]
      refine tk0 (i := 3) (v := .pointer (some ⟨r, 0, none⟩)) rfl hHeld0 ?_
      simp only [Act.put, zA, zB, zC, zD, zE, zF]
      refine tk (i := 4) (v := .bool false) rfl (Or.inl ⟨by kernel_rfl, fun w hSw => by go_simp <;> (first | exact beq_iff_eq.1 (by assumption) | exact beq_eq_false_iff_ne.1 (by assumption) | omega)⟩) hHeld0 ?_
      simp only [Act.put, zA, zB, zC, zD, zE, zF]
      refine tk0 (i := 5) (v := .bool false) rfl hHeld0 ?_
      simp only [Act.put, zA, zB, zC, zD, zE, zF]
      refine tk0 (i := 6) (v := .bool false) rfl hHeld0 ?_
      simp only [Act.put, zA, zB, zC, zD, zE, zF]
      refine tk0 (i := 7) (v := .pointer (some ⟨p, 0, none⟩)) rfl hHeld0 ?_
      simp only [Act.put, zA, zB, zC, zD, zE, zF]
      refine tk0 (i := 8) (v := .pointer (some ⟨p, 0, none⟩)) rfl hHeld0 ?_
      simp only [Act.put, zA, zB, zC, zD, zE, zF]
      refine tk (i := 9) (v := .agg DV0) rfl (yields_row (by kernel_rfl) 29 _ rfl (p) rfl 29 DV0 (0, 0) _ (fun W h => h.2.1) Tryd.underlying29 rfl HID.out) hHeld0 ?_
      simp only [Act.put, zA, zB, zC, zD, zE, zF]
      change wpAnyH _ _ _ _ _ 20 #[true, true, true, true, true, true, true, true, true, true, false, false, false, false, false, false, false, false, false, false, false, false, false, false, false, false, false, false, false, false] _ _
      refine wpAnyH_ready (rs := [10]) (by kernel_rfl) (by simp) ?_
      refine AllReadyH.cons rfl (fun K hK => ?_) AllReadyH.nil
      simp only [zA, zB, zC]
      refine (if_pos (by kernel_rfl)).mpr ?_
      go_wp2_with fail
      refine (HFO.out _ (hHeld0).2.2.2).mono ?_
      rintro e wx0 ⟨rfl, hfx0⟩
      dsimp only
      refine hK.out _ _ (⟨hfx0.keep (hHeld0).1 (fun h => h), hfx0.keep (hHeld0).2.1 (fun h => h), hfx0.keep (hHeld0).2.2.1 (fun h => h), (hHeld0).2.2.2.then0 hfx0⟩) (fun hHeld1 => ?_)
      clear hK K hHeld0
      refine tk (i := 11) (v := .bool false) rfl (Or.inl ⟨by kernel_rfl, fun w hSw => by go_simp <;> (first | exact beq_iff_eq.1 (by assumption) | exact beq_eq_false_iff_ne.1 (by assumption) | omega)⟩) hHeld1 ?_
      simp only [Act.put, zA, zB, zC, zD, zE, zF]
      refine tk0 (i := 12) (v := .bool false) rfl hHeld1 ?_
      simp only [Act.put, zA, zB, zC, zD, zE, zF]
      refine tk0 (i := 13) (v := .bool false) rfl hHeld1 ?_
      simp only [Act.put, zA, zB, zC, zD, zE, zF]
      refine tk0 (i := 14) (v := .pointer (some ⟨r, 0, none⟩)) rfl hHeld1 ?_
      simp only [Act.put, zA, zB, zC, zD, zE, zF]
      refine tk0 (i := 15) (v := .pointer (some ⟨r, 0, none⟩)) rfl hHeld1 ?_
      simp only [Act.put, zA, zB, zC, zD, zE, zF]
      refine tk (i := 16) (v := .agg RV0) rfl (yields_row (by kernel_rfl) 32 _ rfl (r) rfl 32 RV0 (0, 0) _ (fun W h => h.2.2.1) Tryd.underlying32 rfl HIR.out) hHeld1 ?_
      simp only [Act.put, zA, zB, zC, zD, zE, zF]
      refine tk0 (i := 17) (v := .pointer (some ⟨p, 0, none⟩)) rfl hHeld1 ?_
      simp only [Act.put, zA, zB, zC, zD, zE, zF]
      refine tk0 (i := 18) (v := .pointer (some ⟨p, 0, none⟩)) rfl hHeld1 ?_
      simp only [Act.put, zA, zB, zC, zD, zE, zF]
      refine tk0 (i := 19) (v := .pointer (some ⟨p, 0, none⟩)) rfl hHeld1 ?_
      simp only [Act.put, zA, zB, zC, zD, zE, zF]
      refine tk (i := 20) (v := .slice sa d.S.length sc) rfl (Or.inl ⟨by kernel_rfl, fun w hSw => by have hcl := (fun _ h => (Bk.cell h.2.1 0).trans D0.out) w hSw; go_simp⟩) hHeld1 ?_
      simp only [Act.put, zA, zB, zC, zD, zE, zF]
      refine tk (i := 21) (v := .int .i64 (d.S.length : Int)) rfl (Or.inl ⟨by kernel_rfl, fun w hSw => by go_simp⟩) hHeld1 ?_
      simp only [Act.put, zA, zB, zC, zD, zE, zF]
      change wpAnyH _ _ _ _ _ 8 #[true, true, true, true, true, true, true, true, true, true, true, true, true, true, true, true, true, true, true, true, true, true, false, false, false, false, false, false, false, false] _ _
      refine wpAnyH_ready (rs := [22]) (by kernel_rfl) (by simp) ?_
      refine AllReadyH.cons rfl (fun K hK => ?_) AllReadyH.nil
      simp only [zA, zB, zC]
      refine (if_pos (by kernel_rfl)).mpr ?_
      go_wp2_with fail
      refine (HRI.out _ (hHeld1).2.2.2).mono ?_
      rintro e wx1 ⟨rfl, hfx1⟩
      dsimp only
      refine hK.out _ _ (⟨hfx1.keep (hHeld1).1 (fun h => h), hfx1.keep (hHeld1).2.1 (fun h => h), hfx1.keep (hHeld1).2.2.1 (fun h => h), (hHeld1).2.2.2.then0 hfx1⟩) (fun hHeld2 => ?_)
      clear hK K hHeld1
      refine tk (i := 23) (v := .bool true) rfl (Or.inl ⟨by kernel_rfl, fun w hSw => by go_simp <;> (first | exact beq_iff_eq.1 (by assumption) | exact beq_eq_false_iff_ne.1 (by assumption) | omega)⟩) hHeld2 ?_
      simp only [Act.put, zA, zB, zC, zD, zE, zF]
      refine tk0 (i := 24) (v := .bool true) rfl hHeld2 ?_
      simp only [Act.put, zA, zB, zC, zD, zE, zF]
      refine tk0 (i := 25) (v := .bool true) rfl hHeld2 ?_
      simp only [Act.put, zA, zB, zC, zD, zE, zF]
      refine tk (i := 26) (v := undef) rfl (Or.inr ⟨by kernel_rfl, rfl⟩) hHeld2 ?_
      simp only [Act.put, zA, zB, zC, zD, zE, zF]
      refine tk (i := 27) (v := undef) rfl (Or.inr ⟨by kernel_rfl, rfl⟩) hHeld2 ?_
      simp only [Act.put, zA, zB, zC, zD, zE, zF]
      refine tk (i := 28) (v := undef) rfl (Or.inr ⟨by kernel_rfl, rfl⟩) hHeld2 ?_
      simp only [Act.put, zA, zB, zC, zD, zE, zF]
      refine tk0 (i := 29) (v := .bool true) rfl hHeld2 ?_
      simp only [Act.put, zA, zB, zC, zD, zE, zF]
      change wpAnyH _ _ _ _ _ 0 #[true, true, true, true, true, true, true, true, true, true, true, true, true, true, true, true, true, true, true, true, true, true, true, true, true, true, true, true, true, true] _ _
      refine wpAnyH_done (by kernel_rfl) ?_ _
      refine NoPanic.normal ?_
      have HEND := Lib.hid hHeld2
      clear hHeld2
      go_wp2
      go_ret
      exact ⟨rfl, HEND.out.2.2.2⟩
    | true =>
      cases ri with
      | false =>
        go_enter Tryd.func17, Tryd.ntmps17
        go_wp2
        refine wp_region_noPanic ?_
        refine wp_region_held_drew (S := (fun W : World => Bk W w.heap.size X 37 ∧ Bk W p DV0 29 ∧ Bk W r RV0 32 ∧ Fr0 w W)) (by kernel_rfl) (⟨Fr.keep (S := fun _ => False) (Fr.drew (Fr.refl _ _)) HX1.out (fun h => h), Fr.keep (S := fun _ => False) (Fr.drew (Fr.refl _ _)) HD1.out (fun h => h), Fr.keep (S := fun _ => False) (Fr.drew (Fr.refl _ _)) HR1.out (fun h => h), Fr.drew HF1.out⟩) (fun hHeld0 => ?_)
        refine tk0 (i := 0) (v := .pointer (some ⟨p, 0, none⟩)) rfl hHeld0 ?_
        simp only [Act.put, zA, zB, zC, zD, zE, zF]
        refine tk (i := 1) (v := .bool false) rfl (Or.inl ⟨by kernel_rfl, fun w hSw => by go_simp <;> (first | exact beq_iff_eq.1 (by assumption) | exact beq_eq_false_iff_ne.1 (by assumption) | omega)⟩) hHeld0 ?_
        simp only [Act.put, zA, zB, zC, zD, zE, zF]
        refine tk0 (i := 2) (v := .bool false) rfl hHeld0 ?_
        simp only [Act.put, zA, zB, zC, zD, zE, zF]
        refine tk0 (i := 3) (v := .pointer (some ⟨r, 0, none⟩)) rfl hHeld0 ?_
        simp only [Act.put, zA, zB, zC, zD, zE, zF]
        refine tk (i := 4) (v := .bool false) rfl (Or.inl ⟨by kernel_rfl, fun w hSw => by go_simp <;> (first | exact beq_iff_eq.1 (by assumption) | exact beq_eq_false_iff_ne.1 (by assumption) | omega)⟩) hHeld0 ?_
        simp only [Act.put, zA, zB, zC, zD, zE, zF]
        refine tk0 (i := 5) (v := .bool false) rfl hHeld0 ?_
        simp only [Act.put, zA, zB, zC, zD, zE, zF]
        refine tk0 (i := 6) (v := .bool false) rfl hHeld0 ?_
        simp only [Act.put, zA, zB, zC, zD, zE, zF]
        refine tk0 (i := 7) (v := .pointer (some ⟨p, 0, none⟩)) rfl hHeld0 ?_
        simp only [Act.put, zA, zB, zC, zD, zE, zF]
        refine tk0 (i := 8) (v := .pointer (some ⟨p, 0, none⟩)) rfl hHeld0 ?_
        simp only [Act.put, zA, zB, zC, zD, zE, zF]
        refine tk (i := 9) (v := .agg DV0) rfl (yields_row (by kernel_rfl) 29 _ rfl (p) rfl 29 DV0 (0, 0) _ (fun W h => h.2.1) Tryd.underlying29 rfl HID.out) hHeld0 ?_
        simp only [Act.put, zA, zB, zC, zD, zE, zF]
        change wpAnyH _ _ _ _ _ 20 #[true, true, true, true, true, true, true, true, true, true, false, false, false, false, false, false, false, false, false, false, false, false, false, false, false, false, false, false, false, false] _ _
        refine wpAnyH_ready (rs := [10]) (by kernel_rfl) (by simp) ?_
        refine AllReadyH.cons rfl (fun K hK => ?_) AllReadyH.nil
        simp only [zA, zB, zC]
        refine (if_pos (by kernel_rfl)).mpr ?_
        go_wp2_with fail
        refine (HFO.out _ (hHeld0).2.2.2).mono ?_
        rintro e wx0 ⟨rfl, hfx0⟩
        dsimp only
        refine hK.out _ _ (⟨hfx0.keep (hHeld0).1 (fun h => h), hfx0.keep (hHeld0).2.1 (fun h => h), hfx0.keep (hHeld0).2.2.1 (fun h => h), (hHeld0).2.2.2.then0 hfx0⟩) (fun hHeld1 => ?_)
        clear hK K hHeld0
        refine tk (i := 11) (v := .bool false) rfl (Or.inl ⟨by kernel_rfl, fun w hSw => by go_simp <;> (first | exact beq_iff_eq.1 (by assumption) | exact beq_eq_false_iff_ne.1 (by assumption) | omega)⟩) hHeld1 ?_
        simp only [Act.put, zA, zB, zC, zD, zE, zF]
        refine tk0 (i := 12) (v := .bool false) rfl hHeld1 ?_
        simp only [Act.put, zA, zB, zC, zD, zE, zF]
        refine tk0 (i := 13) (v := .bool false) rfl hHeld1 ?_
        simp only [Act.put, zA, zB, zC, zD, zE, zF]
        refine tk0 (i := 14) (v := .pointer (some ⟨r, 0, none⟩)) rfl hHeld1 ?_
        simp only [Act.put, zA, zB, zC, zD, zE, zF]
        refine tk0 (i := 15) (v := .pointer (some ⟨r, 0, none⟩)) rfl hHeld1 ?_
        simp only [Act.put, zA, zB, zC, zD, zE, zF]
        refine tk (i := 16) (v := .agg RV0) rfl (yields_row (by kernel_rfl) 32 _ rfl (r) rfl 32 RV0 (0, 0) _ (fun W h => h.2.2.1) Tryd.underlying32 rfl HIR.out) hHeld1 ?_
        simp only [Act.put, zA, zB, zC, zD, zE, zF]
        refine tk0 (i := 17) (v := .pointer (some ⟨p, 0, none⟩)) rfl hHeld1 ?_
        simp only [Act.put, zA, zB, zC, zD, zE, zF]
        refine tk0 (i := 18) (v := .pointer (some ⟨p, 0, none⟩)) rfl hHeld1 ?_
        simp only [Act.put, zA, zB, zC, zD, zE, zF]
        refine tk0 (i := 19) (v := .pointer (some ⟨p, 0, none⟩)) rfl hHeld1 ?_
        simp only [Act.put, zA, zB, zC, zD, zE, zF]
        refine tk (i := 20) (v := .slice sa d.S.length sc) rfl (Or.inl ⟨by kernel_rfl, fun w hSw => by have hcl := (fun _ h => (Bk.cell h.2.1 0).trans D0.out) w hSw; go_simp⟩) hHeld1 ?_
        simp only [Act.put, zA, zB, zC, zD, zE, zF]
        refine tk (i := 21) (v := .int .i64 (d.S.length : Int)) rfl (Or.inl ⟨by kernel_rfl, fun w hSw => by go_simp⟩) hHeld1 ?_
        simp only [Act.put, zA, zB, zC, zD, zE, zF]
        change wpAnyH _ _ _ _ _ 8 #[true, true, true, true, true, true, true, true, true, true, true, true, true, true, true, true, true, true, true, true, true, true, false, false, false, false, false, false, false, false] _ _
        refine wpAnyH_ready (rs := [22]) (by kernel_rfl) (by simp) ?_
        refine AllReadyH.cons rfl (fun K hK => ?_) AllReadyH.nil
        simp only [zA, zB, zC]
        refine (if_pos (by kernel_rfl)).mpr ?_
        go_wp2_with fail
        refine (HRI.out _ (hHeld1).2.2.2).mono ?_
        rintro e wx1 ⟨rfl, hfx1⟩
        dsimp only
        refine hK.out _ _ (⟨hfx1.keep (hHeld1).1 (fun h => h), hfx1.keep (hHeld1).2.1 (fun h => h), hfx1.keep (hHeld1).2.2.1 (fun h => h), (hHeld1).2.2.2.then0 hfx1⟩) (fun hHeld2 => ?_)
        clear hK K hHeld1
        refine tk (i := 23) (v := .bool false) rfl (Or.inl ⟨by kernel_rfl, fun w hSw => by go_simp <;> (first | exact beq_iff_eq.1 (by assumption) | exact beq_eq_false_iff_ne.1 (by assumption) | omega)⟩) hHeld2 ?_
        simp only [Act.put, zA, zB, zC, zD, zE, zF]
        refine tk0 (i := 24) (v := .bool false) rfl hHeld2 ?_
        simp only [Act.put, zA, zB, zC, zD, zE, zF]
        refine tk0 (i := 25) (v := .bool false) rfl hHeld2 ?_
        simp only [Act.put, zA, zB, zC, zD, zE, zF]
        refine tk (i := 26) (v := .agg X) rfl (yields_row (by kernel_rfl) 37 _ rfl (w.heap.size) rfl 37 X (0, 0) _ (fun W h => h.1) Tryd.underlying37 rfl HIP.out) hHeld2 ?_
        simp only [Act.put, zA, zB, zC, zD, zE, zF]
        change wpAnyH _ _ _ _ _ 3 #[true, true, true, true, true, true, true, true, true, true, true, true, true, true, true, true, true, true, true, true, true, true, true, true, true, true, true, false, false, false] _ _
        refine wpAnyH_ready (rs := [27]) (by kernel_rfl) (by simp) ?_
        refine AllReadyH.cons rfl (fun K hK => ?_) AllReadyH.nil
        simp only [zA, zB, zC]
        refine (if_pos (by kernel_rfl)).mpr ?_
        go_wp2_with fail
        refine (HPR.out _).mono ?_
        rintro e wx2 ⟨rfl, hfx2⟩
        dsimp only
        refine hK.out _ _ (⟨hfx2.keep (hHeld2).1 (fun h => h), hfx2.keep (hHeld2).2.1 (fun h => h), hfx2.keep (hHeld2).2.2.1 (fun h => h), (hHeld2).2.2.2.then0 hfx2⟩) (fun hHeld3 => ?_)
        clear hK K hHeld2
        refine tk (i := 28) (v := .bool true) rfl (Or.inl ⟨by kernel_rfl, fun w hSw => by go_simp <;> (first | exact beq_iff_eq.1 (by assumption) | exact beq_eq_false_iff_ne.1 (by assumption) | omega)⟩) hHeld3 ?_
        simp only [Act.put, zA, zB, zC, zD, zE, zF]
        refine tk0 (i := 29) (v := .bool true) rfl hHeld3 ?_
        simp only [Act.put, zA, zB, zC, zD, zE, zF]
        change wpAnyH _ _ _ _ _ 0 #[true, true, true, true, true, true, true, true, true, true, true, true, true, true, true, true, true, true, true, true, true, true, true, true, true, true, true, true, true, true] _ _
        refine wpAnyH_done (by kernel_rfl) ?_ _
        refine NoPanic.normal ?_
        have HEND := Lib.hid hHeld3
        clear hHeld3
        go_wp2
        go_ret
        exact ⟨rfl, HEND.out.2.2.2⟩
      | true =>
        go_enter Tryd.func17, Tryd.ntmps17
        go_wp2
        refine wp_region_noPanic ?_
        refine wp_region_held_drew (S := (fun W : World => Bk W w.heap.size X 37 ∧ Bk W p DV0 29 ∧ Bk W r RV0 32 ∧ Fr0 w W)) (by kernel_rfl) (⟨Fr.keep (S := fun _ => False) (Fr.drew (Fr.refl _ _)) HX1.out (fun h => h), Fr.keep (S := fun _ => False) (Fr.drew (Fr.refl _ _)) HD1.out (fun h => h), Fr.keep (S := fun _ => False) (Fr.drew (Fr.refl _ _)) HR1.out (fun h => h), Fr.drew HF1.out⟩) (fun hHeld0 => ?_)
        refine tk0 (i := 0) (v := .pointer (some ⟨p, 0, none⟩)) rfl hHeld0 ?_
        simp only [Act.put, zA, zB, zC, zD, zE, zF]
        refine tk (i := 1) (v := .bool false) rfl (Or.inl ⟨by kernel_rfl, fun w hSw => by go_simp <;> (first | exact beq_iff_eq.1 (by assumption) | exact beq_eq_false_iff_ne.1 (by assumption) | omega)⟩) hHeld0 ?_
        simp only [Act.put, zA, zB, zC, zD, zE, zF]
        refine tk0 (i := 2) (v := .bool false) rfl hHeld0 ?_
        simp only [Act.put, zA, zB, zC, zD, zE, zF]
        refine tk0 (i := 3) (v := .pointer (some ⟨r, 0, none⟩)) rfl hHeld0 ?_
        simp only [Act.put, zA, zB, zC, zD, zE, zF]
        refine tk (i := 4) (v := .bool false) rfl (Or.inl ⟨by kernel_rfl, fun w hSw => by go_simp <;> (first | exact beq_iff_eq.1 (by assumption) | exact beq_eq_false_iff_ne.1 (by assumption) | omega)⟩) hHeld0 ?_
        simp only [Act.put, zA, zB, zC, zD, zE, zF]
        refine tk0 (i := 5) (v := .bool false) rfl hHeld0 ?_
        simp only [Act.put, zA, zB, zC, zD, zE, zF]
        refine tk0 (i := 6) (v := .bool false) rfl hHeld0 ?_
        simp only [Act.put, zA, zB, zC, zD, zE, zF]
        refine tk0 (i := 7) (v := .pointer (some ⟨p, 0, none⟩)) rfl hHeld0 ?_
        simp only [Act.put, zA, zB, zC, zD, zE, zF]
        refine tk0 (i := 8) (v := .pointer (some ⟨p, 0, none⟩)) rfl hHeld0 ?_
        simp only [Act.put, zA, zB, zC, zD, zE, zF]
        refine tk (i := 9) (v := .agg DV0) rfl (yields_row (by kernel_rfl) 29 _ rfl (p) rfl 29 DV0 (0, 0) _ (fun W h => h.2.1) Tryd.underlying29 rfl HID.out) hHeld0 ?_
        simp only [Act.put, zA, zB, zC, zD, zE, zF]
        change wpAnyH _ _ _ _ _ 20 #[true, true, true, true, true, true, true, true, true, true, false, false, false, false, false, false, false, false, false, false, false, false, false, false, false, false, false, false, false, false] _ _
        refine wpAnyH_ready (rs := [10]) (by kernel_rfl) (by simp) ?_
        refine AllReadyH.cons rfl (fun K hK => ?_) AllReadyH.nil
        simp only [zA, zB, zC]
        refine (if_pos (by kernel_rfl)).mpr ?_
        go_wp2_with fail
        refine (HFO.out _ (hHeld0).2.2.2).mono ?_
        rintro e wx0 ⟨rfl, hfx0⟩
        dsimp only
        refine hK.out _ _ (⟨hfx0.keep (hHeld0).1 (fun h => h), hfx0.keep (hHeld0).2.1 (fun h => h), hfx0.keep (hHeld0).2.2.1 (fun h => h), (hHeld0).2.2.2.then0 hfx0⟩) (fun hHeld1 => ?_)
        clear hK K hHeld0
        refine tk (i := 11) (v := .bool false) rfl (Or.inl ⟨by kernel_rfl, fun w hSw => by go_simp <;> (first | exact beq_iff_eq.1 (by assumption) | exact beq_eq_false_iff_ne.1 (by assumption) | omega)⟩) hHeld1 ?_
        simp only [Act.put, zA, zB, zC, zD, zE, zF]
        refine tk0 (i := 12) (v := .bool false) rfl hHeld1 ?_
        simp only [Act.put, zA, zB, zC, zD, zE, zF]
        refine tk0 (i := 13) (v := .bool false) rfl hHeld1 ?_
        simp only [Act.put, zA, zB, zC, zD, zE, zF]
        refine tk0 (i := 14) (v := .pointer (some ⟨r, 0, none⟩)) rfl hHeld1 ?_
        simp only [Act.put, zA, zB, zC, zD, zE, zF]
        refine tk0 (i := 15) (v := .pointer (some ⟨r, 0, none⟩)) rfl hHeld1 ?_
        simp only [Act.put, zA, zB, zC, zD, zE, zF]
        refine tk (i := 16) (v := .agg RV0) rfl (yields_row (by kernel_rfl) 32 _ rfl (r) rfl 32 RV0 (0, 0) _ (fun W h => h.2.2.1) Tryd.underlying32 rfl HIR.out) hHeld1 ?_
        simp only [Act.put, zA, zB, zC, zD, zE, zF]
        refine tk0 (i := 17) (v := .pointer (some ⟨p, 0, none⟩)) rfl hHeld1 ?_
        simp only [Act.put, zA, zB, zC, zD, zE, zF]
        refine tk0 (i := 18) (v := .pointer (some ⟨p, 0, none⟩)) rfl hHeld1 ?_
        simp only [Act.put, zA, zB, zC, zD, zE, zF]
        refine tk0 (i := 19) (v := .pointer (some ⟨p, 0, none⟩)) rfl hHeld1 ?_
        simp only [Act.put, zA, zB, zC, zD, zE, zF]
        refine tk (i := 20) (v := .slice sa d.S.length sc) rfl (Or.inl ⟨by kernel_rfl, fun w hSw => by have hcl := (fun _ h => (Bk.cell h.2.1 0).trans D0.out) w hSw; go_simp⟩) hHeld1 ?_
        simp only [Act.put, zA, zB, zC, zD, zE, zF]
        refine tk (i := 21) (v := .int .i64 (d.S.length : Int)) rfl (Or.inl ⟨by kernel_rfl, fun w hSw => by go_simp⟩) hHeld1 ?_
        simp only [Act.put, zA, zB, zC, zD, zE, zF]
        change wpAnyH _ _ _ _ _ 8 #[true, true, true, true, true, true, true, true, true, true, true, true, true, true, true, true, true, true, true, true, true, true, false, false, false, false, false, false, false, false] _ _
        refine wpAnyH_ready (rs := [22]) (by kernel_rfl) (by simp) ?_
        refine AllReadyH.cons rfl (fun K hK => ?_) AllReadyH.nil
        simp only [zA, zB, zC]
        refine (if_pos (by kernel_rfl)).mpr ?_
        go_wp2_with fail
        refine (HRI.out _ (hHeld1).2.2.2).mono ?_
        rintro e wx1 ⟨rfl, hfx1⟩
        dsimp only
        refine hK.out _ _ (⟨hfx1.keep (hHeld1).1 (fun h => h), hfx1.keep (hHeld1).2.1 (fun h => h), hfx1.keep (hHeld1).2.2.1 (fun h => h), (hHeld1).2.2.2.then0 hfx1⟩) (fun hHeld2 => ?_)
        clear hK K hHeld1
        refine tk (i := 23) (v := .bool false) rfl (Or.inl ⟨by kernel_rfl, fun w hSw => by go_simp <;> (first | exact beq_iff_eq.1 (by assumption) | exact beq_eq_false_iff_ne.1 (by assumption) | omega)⟩) hHeld2 ?_
        simp only [Act.put, zA, zB, zC, zD, zE, zF]
        refine tk0 (i := 24) (v := .bool false) rfl hHeld2 ?_
        simp only [Act.put, zA, zB, zC, zD, zE, zF]
        refine tk0 (i := 25) (v := .bool false) rfl hHeld2 ?_
        simp only [Act.put, zA, zB, zC, zD, zE, zF]
        refine tk (i := 26) (v := .agg X) rfl (yields_row (by kernel_rfl) 37 _ rfl (w.heap.size) rfl 37 X (0, 0) _ (fun W h => h.1) Tryd.underlying37 rfl HIP.out) hHeld2 ?_
        simp only [Act.put, zA, zB, zC, zD, zE, zF]
        change wpAnyH _ _ _ _ _ 3 #[true, true, true, true, true, true, true, true, true, true, true, true, true, true, true, true, true, true, true, true, true, true, true, true, true, true, true, false, false, false] _ _
        refine wpAnyH_ready (rs := [27]) (by kernel_rfl) (by simp) ?_
        refine AllReadyH.cons rfl (fun K hK => ?_) AllReadyH.nil
        simp only [zA, zB, zC]
        refine (if_pos (by kernel_rfl)).mpr ?_
        go_wp2_with fail
        refine (HPR.out _).mono ?_
        rintro e wx2 ⟨rfl, hfx2⟩
        dsimp only
        refine hK.out _ _ (⟨hfx2.keep (hHeld2).1 (fun h => h), hfx2.keep (hHeld2).2.1 (fun h => h), hfx2.keep (hHeld2).2.2.1 (fun h => h), (hHeld2).2.2.2.then0 hfx2⟩) (fun hHeld3 => ?_)
        clear hK K hHeld2
        refine tk (i := 28) (v := .bool false) rfl (Or.inl ⟨by kernel_rfl, fun w hSw => by go_simp <;> (first | exact beq_iff_eq.1 (by assumption) | exact beq_eq_false_iff_ne.1 (by assumption) | omega)⟩) hHeld3 ?_
        simp only [Act.put, zA, zB, zC, zD, zE, zF]
        refine tk0 (i := 29) (v := .bool false) rfl hHeld3 ?_
        simp only [Act.put, zA, zB, zC, zD, zE, zF]
        change wpAnyH _ _ _ _ _ 0 #[true, true, true, true, true, true, true, true, true, true, true, true, true, true, true, true, true, true, true, true, true, true, true, true, true, true, true, true, true, true] _ _
        refine wpAnyH_done (by kernel_rfl) ?_ _
        refine NoPanic.normal ?_
        have HEND := Lib.hid hHeld3
        clear hHeld3
        have c0 := (Bk.cell HEND.out.2.1 0).trans D0.out
        have q0 := (Bk.cell HEND.out.1 0).trans P0.out
        have q1 := (Bk.cell HEND.out.1 1).trans P1.out
        cases u1 with
        | false =>
          go_wp2_with (first | (go_at_call 42; (with_reducible refine (HHF.out _).mono ?_); rintro e w7 ⟨rfl, rfl⟩) | (go_at_call 43; (with_reducible refine (HU1.out _).mono ?_); rintro e w8 ⟨rfl, rfl⟩))
          go_ret
          exact ⟨rfl, HEND.out.2.2.2⟩
        | true =>
          go_wp2_with (first | (go_at_call 42; (with_reducible refine (HHF.out _).mono ?_); rintro e w7 ⟨rfl, rfl⟩) | (go_at_call 43; (with_reducible refine (HU1.out _).mono ?_); rintro e w8 ⟨rfl, rfl⟩) | (go_at_call 43; (with_reducible refine (HU2.out _).mono ?_); rintro e w8 ⟨rfl, rfl⟩))
          go_ret
          exact ⟨rfl, HEND.out.2.2.2⟩

end Go.Proofs.YtmkmpfnadcmcoaaDoor.DitHome
namespace Go.Proofs.YtmkmpfnadcmcoaaDoor.DitRead
open Go Go.RowKit Go.Proofs.YtmkmpfnadcmcoaaDoor.K Go.Proofs.YtmkmpfnadcmcoaaDoor.EqKit Go.Proofs.YtmkmpfnadcmcoaaDoor.ArrKit Go.Proofs.YtmkmpfnadcmcoaaDoor.HeldKit Go.Proofs.YtmkmpfnadcmcoaaDoor.GKit Go.Proofs.YtmkmpfnadcmcoaaDoor.GRow Go.Proofs.YtmkmpfnadcmcoaaDoor.DiskKit Go.Proofs.YtmkmpfnadcmcoaaDoor.RmKit Go.Proofs.YtmkmpfnadcmcoaaDoor.MapKit Go.Proofs.YtmkmpfnadcmcoaaDoor.ShaStep Go.Proofs.YtmkmpfnadcmcoaaDoor.RmRight Go.Proofs.YtmkmpfnadcmcoaaDoor.RmTab Go.Proofs.YtmkmpfnadcmcoaaDoor.RmPut Go.Proofs.YtmkmpfnadcmcoaaDoor.RmAsk Go.Proofs.YtmkmpfnadcmcoaaDoor.RmSame Go.Proofs.YtmkmpfnadcmcoaaDoor.DiskRRead Go.Proofs.YtmkmpfnadcmcoaaDoor.RmRead Go.Proofs.YtmkmpfnadcmcoaaDoor.RmReads Go.Proofs.YtmkmpfnadcmcoaaDoor.DiskAct Go.Proofs.YtmkmpfnadcmcoaaDoor.RmSpare Go.Proofs.YtmkmpfnadcmcoaaDoor.RmKeep Go.Proofs.YtmkmpfnadcmcoaaDoor.RmAliveP Go.Proofs.YtmkmpfnadcmcoaaDoor.RmWrX Go.Proofs.YtmkmpfnadcmcoaaDoor.RmWrite Go.Proofs.YtmkmpfnadcmcoaaDoor.RmPair Go.Proofs.YtmkmpfnadcmcoaaDoor.RowG Go.Proofs.YtmkmpfnadcmcoaaDoor.PtrKit Go.Proofs.YtmkmpfnadcmcoaaDoor.DitKit Go.Proofs.YtmkmpfnadcmcoaaDoor.DitAsk Go.Proofs.YtmkmpfnadcmcoaaDoor.DitHome
set_option maxHeartbeats 2000000 in
set_option maxRecDepth 100000 in
theorem read_calls (p r : Nat) (d : Dk) (m : Rm) (a b q : Int) (s : List UInt8) (w : World) (hok : d.ok) (hm : m.ok) (hps : PS w p r d m) (hsh : Sh w) (hs : s.length = 32) (ha : (Lit.int .i64 a).wf = true) (hb : (Lit.int .i64 b).wf = true) (hq : (Lit.int .i64 q).wf = true) : Calls Tryd.prog 29 #[.pointer (some ⟨p, 0, none⟩), .pointer (some ⟨r, 0, none⟩), .agg (PC a b s).toArray, .int .i64 q] w fun e w' => e = .returned (.tuple #[.agg ((rdG d m a b s q).1.map B).toArray, .bool (rdG d m a b s q).2]) ∧ Fr0 w w' := by
  obtain ⟨⟨sa, sc, ca, cc, hv⟩, ra, rc, hb1, hrv⟩ := hps
  have HRE : Hid (∀ W, Fr0 w W → Calls Tryd.prog 13 #[.pointer (some ⟨p, 0, none⟩), .agg (rval m ra rc), .int .i64 q] W fun e w' => e = .returned (readV (rdX d m q)) ∧ Fr0 W w') := Lib.hid (fun W f => rmread_calls p d sa sc ca cc m ra rc q W hok (hv.keep f) hm (hrv.keep f) hq)
  have hl := rdX_len hok m q
  have HFI : Hid (∀ W, Fr0 w W → Calls Tryd.prog 52 #[.agg (PC a b s).toArray, .agg ((rdX d m q).1.map B).toArray] W fun e w' => e = .returned (.bool (PtrFitB.fitB a b s (rdX d m q).1)) ∧ Fr0 W w') := Lib.hid (fun W f => by
    obtain ⟨⟨tk, hK⟩, ⟨tb, hB⟩⟩ := hsh.keep0 f
    exact PtrFitB.fits_calls a b s _ W hs hl ha hb hK hB)
  have HIP := Lib.hid (info_ptr a b hs)
  have HIR : Hid ((Tryd.prog.info? 32).map (·.size) = some (rval m ra rc).size) := Lib.hid (info_r _ _)
  have HIL := Lib.hid (info_l hl)
  have HSL := Lib.hid (size_l hl)
  have HOL := Lib.hid (one_l (rdX d m q).1)
  unfold rdG
  unfold readV at HRE
  try simp only at HRE
  generalize PtrFitB.fitB a b s (rdX d m q).1 = fb at *
  generalize ((rdX d m q).1.map B).toArray = LB at *
  generalize (rdX d m q).2 = ee at *
  have hf1 : ∀ X : Array Value, Fr0 w ((w.alloc (.cells X 37)).alloc (.cells ZB 22)) := fun X => Fr.alloc (Fr.alloc (Fr.refl _ _) _) _
  have HR2 := fun X : Array Value => (hf1 X).keep hb1 (fun h => h)
  have hs1 : ∀ X : Array Value, (w.alloc (.cells X 37)).heap.size = w.heap.size + 1 := fun X => by simp
  generalize (PC a b s).toArray = X at *
  replace HR2 := Lib.hid (HR2 X)
  have HF2 := Lib.hid (hf1 X)
  have HX2 : Hid (Bk ((w.alloc (.cells X 37)).alloc (.cells ZB 22)) w.heap.size X 37) := Lib.hid (Bk.alloc (Bk.new w _) _)
  have HZ2 : Hid (Bk ((w.alloc (.cells X 37)).alloc (.cells ZB 22)) (w.heap.size + 1) ZB 22) := Lib.hid (by have := Bk.new (w.alloc (.cells X 37)) (.cells ZB 22); rwa [hs1] at this)
  have hzb := zero_bl
  clear hok hm hv hb1 hrv hsh hs ha hb hq hl hf1 hs1
  generalize rval m ra rc = RV0 at *
  go_enter Tryd.func29, Tryd.ntmps29
  go_wp2_with (first | ((with_reducible show wpList _ _ _ ({ dst := _, op := Op.load 32 _, type := _, pos := _, after := _, guard := _ } :: _) _ _); refine wpList_load_row_g (by rfl) 32 _ rfl r rfl 32 RV0 (0, 0) _ HR2.out Tryd.underlying32 rfl HIR.out ?_) | (go_at_call 13; (with_reducible refine (HRE.out _ HF2.out).mono ?_); rintro e w3 ⟨rfl, hf3⟩; have HZ3 := Lib.hid (Bk.new w3 (.cells ZB 22)); have hfx : Fr0 ((w.alloc (.cells X 37)).alloc (.cells ZB 22)) ((w3.alloc (.cells ZB 22)).setRow w3.heap.size LB) := hf3.then0 (ArrKit.Fr.row (Fr.alloc (Fr.refl _ _) _) _ _ (.inl (Nat.le_refl _))); have HX4 := Lib.hid (hfx.keep HX2.out (fun h => h)); have HZ4 := Lib.hid (hfx.keep HZ2.out (fun h => h)); have HF4 := Lib.hid (HF2.out.then0 hfx); have HB4 : Hid (Bk ((w3.alloc (.cells ZB 22)).setRow w3.heap.size LB) w3.heap.size LB 22) := Lib.hid (ArrKit.Bk.row HZ3.out _); have HG4 : Hid (w.heap.size + 1 < w3.heap.size) := Lib.hid (Bk.lt (hf3.keep HZ2.out (fun h => h))); clear hf3 hfx) | ((with_reducible show wpList _ _ _ ({ dst := _, op := Op.store 22 _ _, type := _, pos := _, after := _, guard := _ } :: _) _ _); refine wpList_store_row rfl 22 _ _ rfl w3.heap.size LB rfl rfl 22 ZB HZ3.out HIL.out HSL.out HOL.out ?_))
  clear HZ3
  generalize ((w3.alloc (.cells ZB 22)).setRow w3.heap.size LB) = w4 at *
  generalize w3.heap.size = g4 at *
  by_cases he0 : ee = 0
  · subst he0
    refine wp_region_noPanic ?_
    refine wp_region_held_drew (S := (fun W : World => Bk W w.heap.size X 37 ∧ Bk W g4 LB 22 ∧ Fr0 w W)) (by kernel_rfl) (⟨Fr.keep (S := fun _ => False) (Fr.drew (Fr.refl _ _)) HX4.out (fun h => h), Fr.keep (S := fun _ => False) (Fr.drew (Fr.refl _ _)) HB4.out (fun h => h), Fr.drew HF4.out⟩) (fun hHeld0 => ?_)
    have HZ5 : Hid (Bk w4.drew (w.heap.size + 1) ZB 22) := Lib.hid (Fr.keep (S := fun _ => False) (Fr.drew (Fr.refl _ _)) HZ4.out (fun h => h))
    generalize w4.drew = wd at *
    refine tk (i := 0) (v := .agg LB) rfl (yields_row (by kernel_rfl) 22 _ rfl (g4) rfl 22 LB (0, 0) _ (fun W h => h.2.1) Tryd.underlying22 rfl HIL.out) hHeld0 ?_
    simp only [Act.put, zA, zB, zC, zD, zE, zF]
    refine tk0 (i := 1) (v := .int .i64 0) rfl hHeld0 ?_
    simp only [Act.put, zA, zB, zC, zD, zE, zF]
    refine tk (i := 2) (v := .bool true) rfl (Or.inl ⟨by kernel_rfl, fun w hSw => by go_simp <;> (first | exact beq_iff_eq.1 (by assumption) | exact beq_eq_false_iff_ne.1 (by assumption) | omega)⟩) hHeld0 ?_
    simp only [Act.put, zA, zB, zC, zD, zE, zF]
    refine tk0 (i := 3) (v := .bool true) rfl hHeld0 ?_
    simp only [Act.put, zA, zB, zC, zD, zE, zF]
    refine tk (i := 4) (v := .agg X) rfl (yields_row (by kernel_rfl) 37 _ rfl (w.heap.size) rfl 37 X (0, 0) _ (fun W h => h.1) Tryd.underlying37 rfl HIP.out) hHeld0 ?_
    simp only [Act.put, zA, zB, zC, zD, zE, zF]
    refine tk (i := 5) (v := .agg LB) rfl (yields_row (by kernel_rfl) 22 _ rfl (g4) rfl 22 LB (0, 0) _ (fun W h => h.2.1) Tryd.underlying22 rfl HIL.out) hHeld0 ?_
    simp only [Act.put, zA, zB, zC, zD, zE, zF]
    change wpAnyH _ _ _ _ _ 4 #[true, true, true, true, true, true, false, false, false, false] _ _
    refine wpAnyH_ready (rs := [6]) (by kernel_rfl) (by simp) ?_
    refine AllReadyH.cons rfl (fun K hK => ?_) AllReadyH.nil
    simp only [zA, zB, zC]
    refine (if_pos (by kernel_rfl)).mpr ?_
    go_wp2_with fail
    refine (HFI.out _ (hHeld0).2.2).mono ?_
    rintro e wx0 ⟨rfl, hfx0⟩
    dsimp only
    replace HZ5 := Lib.hid (hfx0.keep HZ5.out (fun h => h))
    refine hK.out _ _ (⟨hfx0.keep (hHeld0).1 (fun h => h), hfx0.keep (hHeld0).2.1 (fun h => h), (hHeld0).2.2.then0 hfx0⟩) (fun hHeld1 => ?_)
    clear hK K hHeld0
    clear hfx0
    refine tk0 (i := 7) (v := .bool fb) rfl hHeld1 ?_
    simp only [Act.put, zA, zB, zC, zD, zE, zF]
    change wpAnyH _ _ _ _ _ 2 #[true, true, true, true, true, true, true, true, false, false] _ _
    refine wpAnyH_ready (rs := [8]) (by kernel_rfl) (by simp) ?_
    refine AllReadyH.cons rfl (fun K hK => ?_) AllReadyH.nil
    simp only [zA, zB, zC]
    refine (if_pos (by kernel_rfl)).mpr ?_
    have hg4 := HG4.out
    refine wp_store_row 22 _ _ rfl (w.heap.size + 1) LB rfl rfl 22 _ HZ5.out HIL.out HSL.out HOL.out ?_
    replace HZ5 : Hid (Bk (wx0.setRow (w.heap.size + 1) LB) (w.heap.size + 1) LB 22) := Lib.hid (ArrKit.Bk.row HZ5.out _)
    refine hK.out _ _ (⟨ArrKit.Bk.rowOther (hHeld1).1 _ (by omega), ArrKit.Bk.rowOther (hHeld1).2.1 _ (by omega), ArrKit.Fr.row (hHeld1).2.2 _ _ (.inl (by omega))⟩) (fun hHeld2 => ?_)
    clear hK K hHeld1
    generalize (wx0.setRow (w.heap.size + 1) LB) = wx1 at *
    refine tk0 (i := 9) (v := .bool fb) rfl hHeld2 ?_
    simp only [Act.put, zA, zB, zC, zD, zE, zF]
    change wpAnyH _ _ _ _ _ 0 #[true, true, true, true, true, true, true, true, true, true] _ _
    refine wpAnyH_done (by kernel_rfl) ?_ _
    refine NoPanic.normal ?_
    have HEND := Lib.hid hHeld2
    clear hHeld2
    go_wp2
    refine fin_ct (w.heap.size + 1) 22 LB (.bool fb) (by rfl) (by rfl) (by rfl) (by rfl) Tryd.underlying22 (by rfl) HIL.out HZ5.out ?_
    exact ⟨by simp, HEND.out.2.2⟩
  · have heb : (ee == 0) = false := by simpa using he0
    refine wp_region_noPanic ?_
    refine wp_region_held_drew (S := (fun W : World => Bk W w.heap.size X 37 ∧ Bk W g4 LB 22 ∧ Fr0 w W)) (by kernel_rfl) (⟨Fr.keep (S := fun _ => False) (Fr.drew (Fr.refl _ _)) HX4.out (fun h => h), Fr.keep (S := fun _ => False) (Fr.drew (Fr.refl _ _)) HB4.out (fun h => h), Fr.drew HF4.out⟩) (fun hHeld0 => ?_)
    have HZ5 : Hid (Bk w4.drew (w.heap.size + 1) ZB 22) := Lib.hid (Fr.keep (S := fun _ => False) (Fr.drew (Fr.refl _ _)) HZ4.out (fun h => h))
    generalize w4.drew = wd at *
    refine tk (i := 0) (v := .agg LB) rfl (yields_row (by kernel_rfl) 22 _ rfl (g4) rfl 22 LB (0, 0) _ (fun W h => h.2.1) Tryd.underlying22 rfl HIL.out) hHeld0 ?_
    simp only [Act.put, zA, zB, zC, zD, zE, zF]
    refine tk0 (i := 1) (v := .int .i64 ee) rfl hHeld0 ?_
    simp only [Act.put, zA, zB, zC, zD, zE, zF]
    refine tk (i := 2) (v := .bool false) rfl (Or.inl ⟨by kernel_rfl, fun w hSw => by go_simp <;> (first | exact beq_iff_eq.1 (by assumption) | exact beq_eq_false_iff_ne.1 (by assumption) | omega)⟩) hHeld0 ?_
    simp only [Act.put, zA, zB, zC, zD, zE, zF]
    refine tk0 (i := 3) (v := .bool false) rfl hHeld0 ?_
    simp only [Act.put, zA, zB, zC, zD, zE, zF]
    refine tk (i := 4) (v := undef) rfl (Or.inr ⟨by kernel_rfl, rfl⟩) hHeld0 ?_
    simp only [Act.put, zA, zB, zC, zD, zE, zF]
    refine tk (i := 5) (v := undef) rfl (Or.inr ⟨by kernel_rfl, rfl⟩) hHeld0 ?_
    simp only [Act.put, zA, zB, zC, zD, zE, zF]
    refine tk (i := 6) (v := undef) rfl (Or.inr ⟨by kernel_rfl, rfl⟩) hHeld0 ?_
    simp only [Act.put, zA, zB, zC, zD, zE, zF]
    refine tk0 (i := 7) (v := .bool false) rfl hHeld0 ?_
    simp only [Act.put, zA, zB, zC, zD, zE, zF]
    change wpAnyH _ _ _ _ _ 2 #[true, true, true, true, true, true, true, true, false, false] _ _
    refine wpAnyH_ready (rs := [8]) (by kernel_rfl) (by simp) ?_
    refine AllReadyH.cons rfl (fun K hK => ?_) AllReadyH.nil
    simp only [zA, zB, zC]
    refine (if_pos (by kernel_rfl)).mpr ?_
    have hg4 := HG4.out
    refine wp_store_row 22 _ _ rfl (w.heap.size + 1) LB rfl rfl 22 _ HZ5.out HIL.out HSL.out HOL.out ?_
    replace HZ5 : Hid (Bk (wd.setRow (w.heap.size + 1) LB) (w.heap.size + 1) LB 22) := Lib.hid (ArrKit.Bk.row HZ5.out _)
    refine hK.out _ _ (⟨ArrKit.Bk.rowOther (hHeld0).1 _ (by omega), ArrKit.Bk.rowOther (hHeld0).2.1 _ (by omega), ArrKit.Fr.row (hHeld0).2.2 _ _ (.inl (by omega))⟩) (fun hHeld1 => ?_)
    clear hK K hHeld0
    generalize (wd.setRow (w.heap.size + 1) LB) = wx0 at *
    refine tk0 (i := 9) (v := .bool false) rfl hHeld1 ?_
    simp only [Act.put, zA, zB, zC, zD, zE, zF]
    change wpAnyH _ _ _ _ _ 0 #[true, true, true, true, true, true, true, true, true, true] _ _
    refine wpAnyH_done (by kernel_rfl) ?_ _
    refine NoPanic.normal ?_
    have HEND := Lib.hid hHeld1
    clear hHeld1
    go_wp2
    refine fin_ct (w.heap.size + 1) 22 LB (.bool false) (by rfl) (by rfl) (by rfl) (by rfl) Tryd.underlying22 (by rfl) HIL.out HZ5.out ?_
    exact ⟨by rw [decide_eq_false he0]; rfl, HEND.out.2.2⟩

end Go.Proofs.YtmkmpfnadcmcoaaDoor.DitRead
