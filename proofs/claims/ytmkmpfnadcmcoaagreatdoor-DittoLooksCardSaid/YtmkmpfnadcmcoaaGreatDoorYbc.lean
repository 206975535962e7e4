/- The theorems that the claim uses, text behind text (part 29). -/
import Derived.Test.YtmkmpfnadcmcoaaGreatDoorYbb
set_option maxRecDepth 100000
set_option maxHeartbeats 8000000
set_option linter.unusedVariables false
set_option linter.unusedSimpArgs false
namespace Go.Proofs.YtmkmpfnadcmcoaaGreatDoor.DitHome
open Go Go.RowKit K EqKit ArrKit HeldKit GKit GRow DiskKit RmKit MapKit ShaStep RmRight RmRRight RmTab RmPut RmAsk RmSame DiskRRead RmRead RmReads DiskAct RmSpare RmKeep RmAliveP RmWrX RmWrite RmPair RowG PtrKit DitKit DitAsk
theorem info_ptr (a b : Int) {s : List UInt8} (hs : s.length = 32) : (Tryz.prog.info? 31).map (·.size) = some (PC a b s).toArray.size := by rw [PtrAsk.info_p, List.size_toArray, PC_length, hs]
theorem home_calls (p r : Nat) (d : Dk) (m : Rm) (a b : Int) (s : List UInt8) (w : World) (hok : d.ok) (hm : m.ok) (hps : PS w p r d m) (hs : s.length = 32) (ha : (Lit.int .i64 a).wf = true) (hb : (Lit.int .i64 b).wf = true) : Calls Tryz.prog 20 #[.pointer (some ⟨p, 0, none⟩), .pointer (some ⟨r, 0, none⟩), .agg (PC a b s).toArray] w fun e w' => e = .returned (.bool (homeB d m a b s)) ∧ Fr0 w w' := by
 obtain ⟨⟨sa, sc, ca, cc, hv⟩, ra, rc, hb1, hrv⟩ := hps
 have HFO : Jq7 (∀ W, Fr0 w W → Calls Tryz.prog 37 #[.agg (dval d sa sc ca cc)] W fun e w' => e = .returned (.bool (formedB d)) ∧ Fr0 W w') := jq7 (fun W f => DiskForm.formed_calls d sa sc ca cc W hok (hv.v.keep f))
 have HRI : Jq7 (∀ W, Fr0 w W → Calls Tryz.prog 38 #[.agg (rval m ra rc), .int .i64 (d.S.length : Int)] W fun e w' => e = .returned (.bool (tabB m (d.S.length : Int))) ∧ Fr0 W w') := jq7 (fun W f => RmRight.right_calls m ra rc _ W hm (hrv.keep f) (wf_nat (Nat.le_trans hv.v.sn hv.v.sm)))
 have HPR : Jq7 (∀ W, Calls Tryz.prog 39 #[.agg (PC a b s).toArray] W fun e w' => e = .returned (.bool (PtrAsk.rightB a b s)) ∧ Fr0 W w') := jq7 (fun W => PtrAsk.right_calls a b s W hs ha hb)
 have HHF : Jq7 (∀ W, Calls Tryz.prog 40 #[.int .i64 (d.S.length : Int)] W fun e w' => e = .returned (.int .i64 (half (d.S.length : Int))) ∧ w' = W) := jq7 (fun W => half_calls _ W (wf_nat (Nat.le_trans hv.v.sn hv.v.sm)))
 have hhr := half_range (d.S.length : Int)
 have HU1 : Jq7 (∀ W, Calls Tryz.prog 41 #[.int .i64 a, .int .i64 (half (d.S.length : Int))] W fun e w' => e = .returned (.bool (usab a (half (d.S.length : Int)))) ∧ w' = W) := jq7 (fun W => DitAsk.usable_calls a _ W ha hhr)
 have HU2 : Jq7 (∀ W, Calls Tryz.prog 41 #[.int .i64 b, .int .i64 (half (d.S.length : Int))] W fun e w' => e = .returned (.bool (usab b (half (d.S.length : Int)))) ∧ w' = W) := jq7 (fun W => DitAsk.usable_calls b _ W hb hhr)
 have P0 : Jq7 ((PC a b s).toArray[0]? = some (.int .i64 a)) := jq7 rfl
 have P1 : Jq7 ((PC a b s).toArray[1]? = some (.int .i64 b)) := jq7 rfl
 have D0 : Jq7 ((dval d sa sc ca cc)[0]? = some (.slice sa d.S.length sc)) := jq7 rfl
 have HIP := jq7 (info_ptr a b hs)
 have HID : Jq7 ((Tryz.prog.info? 25).map (·.size) = some (dval d sa sc ca cc).size) := jq7 info_d
 have HIR : Jq7 ((Tryz.prog.info? 28).map (·.size) = some (rval m ra rc).size) := jq7 (info_r _ _)
 have hf1 : ∀ X : Array Value, Fr0 w (w.alloc (.cells X 31)) := fun X => Fr.alloc (Fr.refl _ _) _
 have HD1 := fun X : Array Value => (hf1 X).keep hv.blk (fun h => h)
 have HR1 := fun X : Array Value => (hf1 X).keep hb1 (fun h => h)
 unfold homeB
 generalize (PC a b s).toArray = X at *
 replace HD1 := jq7 (HD1 X)
 replace HR1 := jq7 (HR1 X)
 have HF1 := jq7 (hf1 X)
 clear hok hm hv hb1 hrv hs ha hb hhr hf1
 generalize dval d sa sc ca cc = DV0 at *
 generalize rval m ra rc = RV0 at *
 generalize half (d.S.length : Int) = h at *
 generalize usab a h = u1 at *
 generalize usab b h = u2 at *
 generalize tabB m (d.S.length : Int) = ta at *
 generalize formedB d = fo at *
 generalize PtrAsk.rightB a b s = ri at *
 have HX1 : Jq7 (Bk (w.alloc (.cells X 31)) w.heap.size X 31) := jq7 (Bk.new w _)
 cases fo with
 | false =>
  go_enter Tryz.func20, Tryz.ntmps20
  go_wp2
  refine wp_region_noPanic ?_
  refine wp_region_held_drew (S := (fun W : World => Bk W w.heap.size X 31 ∧ Bk W p DV0 25 ∧ Bk W r RV0 28 ∧ Fr0 w W)) (by kernel_rfl) (⟨Fr.keep (S := fun _ => False) (Fr.drew (Fr.refl _ _)) HX1.o (fun h => h), Fr.keep (S := fun _ => False) (Fr.drew (Fr.refl _ _)) HD1.o (fun h => h), Fr.keep (S := fun _ => False) (Fr.drew (Fr.refl _ _)) HR1.o (fun h => h), Fr.drew HF1.o⟩) (fun hL0 => ?_)
  refine tk0 (i := 0) (v := .pointer (some ⟨p, 0, none⟩)) rfl hL0 ?_
  refine tk (i := 1) (v := .bool false) rfl (Or.inl ⟨by kernel_rfl, fun w hSw => by go_simp <;> (first | exact beq_iff_eq.1 (by assumption) | exact beq_eq_false_iff_ne.1 (by assumption) | omega)⟩) hL0 ?_
  simp only [Act.put,zA,zB,zC,zD,zE,zF]
  refine tk0 (i := 2) (v := .bool false) rfl hL0 ?_
  refine tk0 (i := 3) (v := .pointer (some ⟨r, 0, none⟩)) rfl hL0 ?_
  simp only [Act.put,zA,zB,zC,zD,zE,zF]
  refine tk (i := 4) (v := .bool false) rfl (Or.inl ⟨by kernel_rfl, fun w hSw => by go_simp <;> (first | exact beq_iff_eq.1 (by assumption) | exact beq_eq_false_iff_ne.1 (by assumption) | omega)⟩) hL0 ?_
  refine tk0 (i := 5) (v := .bool false) rfl hL0 ?_
  simp only [Act.put,zA,zB,zC,zD,zE,zF]
  refine tk0 (i := 6) (v := .bool false) rfl hL0 ?_
  refine tk0 (i := 7) (v := .pointer (some ⟨p, 0, none⟩)) rfl hL0 ?_
  simp only [Act.put,zA,zB,zC,zD,zE,zF]
  refine tk0 (i := 8) (v := .pointer (some ⟨p, 0, none⟩)) rfl hL0 ?_
  refine tk (i := 9) (v := .agg DV0) rfl (yields_row (by kernel_rfl) 25 _ rfl (p) rfl 25 DV0 (0, 0) _ (fun W h => h.2.1) Tryz.underlying25 rfl HID.o) hL0 ?_
  simp only [Act.put,zA,zB,zC,zD,zE,zF]
  change wpAnyH _ _ _ _ _ 20 #[true, true, true, true, true, true, true, true, true, true, false, false, false, false, false, false, false, false, false, false, false, false, false, false, false, false, false, false, false, false] _ _
  refine rd1 10 rfl fun K hK => ?_
  simp only [zA, zB, zC]
  go_wp2_with fail
  refine (HFO.o _ (hL0).2.2.2).mono ?_
  rintro e wx0 ⟨rfl, hfx0⟩
  dsimp only
  refine hK.out _ _ (⟨hfx0.keep (hL0).1 (fun h => h), hfx0.keep (hL0).2.1 (fun h => h), hfx0.keep (hL0).2.2.1 (fun h => h), (hL0).2.2.2.then0 hfx0⟩) (fun hL1 => ?_)
  clear hK K hL0
  refine tk (i := 11) (v := .bool true) rfl (Or.inl ⟨by kernel_rfl, fun w hSw => by go_simp <;> (first | exact beq_iff_eq.1 (by assumption) | exact beq_eq_false_iff_ne.1 (by assumption) | omega)⟩) hL1 ?_
  refine tk0 (i := 12) (v := .bool true) rfl hL1 ?_
  simp only [Act.put,zA,zB,zC,zD,zE,zF]
  refine tk0 (i := 13) (v := .bool true) rfl hL1 ?_
  refine tk (i := 14) (v := undef) rfl (Or.inr ⟨by kernel_rfl, rfl⟩) hL1 ?_
  simp only [Act.put,zA,zB,zC,zD,zE,zF]
  refine tk (i := 15) (v := undef) rfl (Or.inr ⟨by kernel_rfl, rfl⟩) hL1 ?_
  refine tk (i := 16) (v := undef) rfl (Or.inr ⟨by kernel_rfl, rfl⟩) hL1 ?_
  simp only [Act.put,zA,zB,zC,zD,zE,zF]
  refine tk (i := 17) (v := undef) rfl (Or.inr ⟨by kernel_rfl, rfl⟩) hL1 ?_
  refine tk (i := 18) (v := undef) rfl (Or.inr ⟨by kernel_rfl, rfl⟩) hL1 ?_
  simp only [Act.put,zA,zB,zC,zD,zE,zF]
  refine tk (i := 19) (v := undef) rfl (Or.inr ⟨by kernel_rfl, rfl⟩) hL1 ?_
  refine tk (i := 20) (v := undef) rfl (Or.inr ⟨by kernel_rfl, rfl⟩) hL1 ?_
  simp only [Act.put,zA,zB,zC,zD,zE,zF]
  refine tk (i := 21) (v := undef) rfl (Or.inr ⟨by kernel_rfl, rfl⟩) hL1 ?_
  refine tk (i := 22) (v := undef) rfl (Or.inr ⟨by kernel_rfl, rfl⟩) hL1 ?_
  simp only [Act.put,zA,zB,zC,zD,zE,zF]
  refine tk (i := 23) (v := undef) rfl (Or.inr ⟨by kernel_rfl, rfl⟩) hL1 ?_
  refine tk0 (i := 24) (v := .bool true) rfl hL1 ?_
  simp only [Act.put,zA,zB,zC,zD,zE,zF]
  refine tk0 (i := 25) (v := .bool true) rfl hL1 ?_
  refine tk (i := 26) (v := undef) rfl (Or.inr ⟨by kernel_rfl, rfl⟩) hL1 ?_
  simp only [Act.put,zA,zB,zC,zD,zE,zF]
  refine tk (i := 27) (v := undef) rfl (Or.inr ⟨by kernel_rfl, rfl⟩) hL1 ?_
  refine tk (i := 28) (v := undef) rfl (Or.inr ⟨by kernel_rfl, rfl⟩) hL1 ?_
  simp only [Act.put,zA,zB,zC,zD,zE,zF]
  refine tk0 (i := 29) (v := .bool true) rfl hL1 ?_
  simp only [Act.put,zA,zB,zC,zD,zE,zF]
  change wpAnyH _ _ _ _ _ 0 #[true, true, true, true, true, true, true, true, true, true, true, true, true, true, true, true, true, true, true, true, true, true, true, true, true, true, true, true, true, true] _ _
  refine wpAnyH_done (by kernel_rfl) ?_ _
  refine NoPanic.normal ?_
  have HEND := jq7 hL1
  clear hL1
  go_wp2
  go_ret
  exact ⟨rfl, HEND.o.2.2.2⟩
 | true =>
  cases ta with
  | false =>
   go_enter Tryz.func20, Tryz.ntmps20
   go_wp2
   refine wp_region_noPanic ?_
   refine wp_region_held_drew (S := (fun W : World => Bk W w.heap.size X 31 ∧ Bk W p DV0 25 ∧ Bk W r RV0 28 ∧ Fr0 w W)) (by kernel_rfl) (⟨Fr.keep (S := fun _ => False) (Fr.drew (Fr.refl _ _)) HX1.o (fun h => h), Fr.keep (S := fun _ => False) (Fr.drew (Fr.refl _ _)) HD1.o (fun h => h), Fr.keep (S := fun _ => False) (Fr.drew (Fr.refl _ _)) HR1.o (fun h => h), Fr.drew HF1.o⟩) (fun hL0 => ?_)
   refine tk0 (i := 0) (v := .pointer (some ⟨p, 0, none⟩)) rfl hL0 ?_
   refine tk (i := 1) (v := .bool false) rfl (Or.inl ⟨by kernel_rfl, fun w hSw => by go_simp <;> (first | exact beq_iff_eq.1 (by assumption) | exact beq_eq_false_iff_ne.1 (by assumption) | omega)⟩) hL0 ?_
   simp only [Act.put,zA,zB,zC,zD,zE,zF]
   refine tk0 (i := 2) (v := .bool false) rfl hL0 ?_
   refine tk0 (i := 3) (v := .pointer (some ⟨r, 0, none⟩)) rfl hL0 ?_
   simp only [Act.put,zA,zB,zC,zD,zE,zF]
   refine tk (i := 4) (v := .bool false) rfl (Or.inl ⟨by kernel_rfl, fun w hSw => by go_simp <;> (first | exact beq_iff_eq.1 (by assumption) | exact beq_eq_false_iff_ne.1 (by assumption) | omega)⟩) hL0 ?_
   refine tk0 (i := 5) (v := .bool false) rfl hL0 ?_
   simp only [Act.put,zA,zB,zC,zD,zE,zF]
   refine tk0 (i := 6) (v := .bool false) rfl hL0 ?_
   refine tk0 (i := 7) (v := .pointer (some ⟨p, 0, none⟩)) rfl hL0 ?_
   simp only [Act.put,zA,zB,zC,zD,zE,zF]
   refine tk0 (i := 8) (v := .pointer (some ⟨p, 0, none⟩)) rfl hL0 ?_
   refine tk (i := 9) (v := .agg DV0) rfl (yields_row (by kernel_rfl) 25 _ rfl (p) rfl 25 DV0 (0, 0) _ (fun W h => h.2.1) Tryz.underlying25 rfl HID.o) hL0 ?_
   simp only [Act.put,zA,zB,zC,zD,zE,zF]
   change wpAnyH _ _ _ _ _ 20 #[true, true, true, true, true, true, true, true, true, true, false, false, false, false, false, false, false, false, false, false, false, false, false, false, false, false, false, false, false, false] _ _
   refine rd1 10 rfl fun K hK => ?_
   simp only [zA, zB, zC]
   go_wp2_with fail
   refine (HFO.o _ (hL0).2.2.2).mono ?_
   rintro e wx0 ⟨rfl, hfx0⟩
   dsimp only
   refine hK.out _ _ (⟨hfx0.keep (hL0).1 (fun h => h), hfx0.keep (hL0).2.1 (fun h => h), hfx0.keep (hL0).2.2.1 (fun h => h), (hL0).2.2.2.then0 hfx0⟩) (fun hL1 => ?_)
   clear hK K hL0
   refine tk (i := 11) (v := .bool false) rfl (Or.inl ⟨by kernel_rfl, fun w hSw => by go_simp <;> (first | exact beq_iff_eq.1 (by assumption) | exact beq_eq_false_iff_ne.1 (by assumption) | omega)⟩) hL1 ?_
   refine tk0 (i := 12) (v := .bool false) rfl hL1 ?_
   simp only [Act.put,zA,zB,zC,zD,zE,zF]
   refine tk0 (i := 13) (v := .bool false) rfl hL1 ?_
   refine tk0 (i := 14) (v := .pointer (some ⟨r, 0, none⟩)) rfl hL1 ?_
   simp only [Act.put,zA,zB,zC,zD,zE,zF]
   refine tk0 (i := 15) (v := .pointer (some ⟨r, 0, none⟩)) rfl hL1 ?_
   refine tk (i := 16) (v := .agg RV0) rfl (yields_row (by kernel_rfl) 28 _ rfl (r) rfl 28 RV0 (0, 0) _ (fun W h => h.2.2.1) Tryz.underlying28 rfl HIR.o) hL1 ?_
   simp only [Act.put,zA,zB,zC,zD,zE,zF]
   refine tk0 (i := 17) (v := .pointer (some ⟨p, 0, none⟩)) rfl hL1 ?_
   refine tk0 (i := 18) (v := .pointer (some ⟨p, 0, none⟩)) rfl hL1 ?_
   simp only [Act.put,zA,zB,zC,zD,zE,zF]
   refine tk0 (i := 19) (v := .pointer (some ⟨p, 0, none⟩)) rfl hL1 ?_
   refine tk (i := 20) (v := .slice sa d.S.length sc) rfl (Or.inl ⟨by kernel_rfl, fun w hSw => by have hcl := (fun _ h => (Bk.cell h.2.1 0).trans D0.o) w hSw;go_simp⟩) hL1 ?_
   simp only [Act.put,zA,zB,zC,zD,zE,zF]
   refine tk (i := 21) (v := .int .i64 (d.S.length : Int)) rfl (Or.inl ⟨by kernel_rfl, fun w hSw => by go_simp⟩) hL1 ?_
   simp only [Act.put,zA,zB,zC,zD,zE,zF]
   change wpAnyH _ _ _ _ _ 8 #[true, true, true, true, true, true, true, true, true, true, true, true, true, true, true, true, true, true, true, true, true, true, false, false, false, false, false, false, false, false] _ _
   refine rd1 22 rfl fun K hK => ?_
   simp only [zA, zB, zC]
   go_wp2_with fail
   refine (HRI.o _ (hL1).2.2.2).mono ?_
   rintro e wx1 ⟨rfl, hfx1⟩
   dsimp only
   refine hK.out _ _ (⟨hfx1.keep (hL1).1 (fun h => h), hfx1.keep (hL1).2.1 (fun h => h), hfx1.keep (hL1).2.2.1 (fun h => h), (hL1).2.2.2.then0 hfx1⟩) (fun hL2 => ?_)
   clear hK K hL1
   refine tk (i := 23) (v := .bool true) rfl (Or.inl ⟨by kernel_rfl, fun w hSw => by go_simp <;> (first | exact beq_iff_eq.1 (by assumption) | exact beq_eq_false_iff_ne.1 (by assumption) | omega)⟩) hL2 ?_
   refine tk0 (i := 24) (v := .bool true) rfl hL2 ?_
   simp only [Act.put,zA,zB,zC,zD,zE,zF]
   refine tk0 (i := 25) (v := .bool true) rfl hL2 ?_
   refine tk (i := 26) (v := undef) rfl (Or.inr ⟨by kernel_rfl, rfl⟩) hL2 ?_
   simp only [Act.put,zA,zB,zC,zD,zE,zF]
   refine tk (i := 27) (v := undef) rfl (Or.inr ⟨by kernel_rfl, rfl⟩) hL2 ?_
   refine tk (i := 28) (v := undef) rfl (Or.inr ⟨by kernel_rfl, rfl⟩) hL2 ?_
   simp only [Act.put,zA,zB,zC,zD,zE,zF]
   refine tk0 (i := 29) (v := .bool true) rfl hL2 ?_
   simp only [Act.put,zA,zB,zC,zD,zE,zF]
   change wpAnyH _ _ _ _ _ 0 #[true, true, true, true, true, true, true, true, true, true, true, true, true, true, true, true, true, true, true, true, true, true, true, true, true, true, true, true, true, true] _ _
   refine wpAnyH_done (by kernel_rfl) ?_ _
   refine NoPanic.normal ?_
   have HEND := jq7 hL2
   clear hL2
   go_wp2
   go_ret
   exact ⟨rfl, HEND.o.2.2.2⟩
  | true =>
   cases ri with
   | false =>
    go_enter Tryz.func20, Tryz.ntmps20
    go_wp2
    refine wp_region_noPanic ?_
    refine wp_region_held_drew (S := (fun W : World => Bk W w.heap.size X 31 ∧ Bk W p DV0 25 ∧ Bk W r RV0 28 ∧ Fr0 w W)) (by kernel_rfl) (⟨Fr.keep (S := fun _ => False) (Fr.drew (Fr.refl _ _)) HX1.o (fun h => h), Fr.keep (S := fun _ => False) (Fr.drew (Fr.refl _ _)) HD1.o (fun h => h), Fr.keep (S := fun _ => False) (Fr.drew (Fr.refl _ _)) HR1.o (fun h => h), Fr.drew HF1.o⟩) (fun hL0 => ?_)
    refine tk0 (i := 0) (v := .pointer (some ⟨p, 0, none⟩)) rfl hL0 ?_
    refine tk (i := 1) (v := .bool false) rfl (Or.inl ⟨by kernel_rfl, fun w hSw => by go_simp <;> (first | exact beq_iff_eq.1 (by assumption) | exact beq_eq_false_iff_ne.1 (by assumption) | omega)⟩) hL0 ?_
    simp only [Act.put,zA,zB,zC,zD,zE,zF]
    refine tk0 (i := 2) (v := .bool false) rfl hL0 ?_
    refine tk0 (i := 3) (v := .pointer (some ⟨r, 0, none⟩)) rfl hL0 ?_
    simp only [Act.put,zA,zB,zC,zD,zE,zF]
    refine tk (i := 4) (v := .bool false) rfl (Or.inl ⟨by kernel_rfl, fun w hSw => by go_simp <;> (first | exact beq_iff_eq.1 (by assumption) | exact beq_eq_false_iff_ne.1 (by assumption) | omega)⟩) hL0 ?_
    refine tk0 (i := 5) (v := .bool false) rfl hL0 ?_
    simp only [Act.put,zA,zB,zC,zD,zE,zF]
    refine tk0 (i := 6) (v := .bool false) rfl hL0 ?_
    refine tk0 (i := 7) (v := .pointer (some ⟨p, 0, none⟩)) rfl hL0 ?_
    simp only [Act.put,zA,zB,zC,zD,zE,zF]
    refine tk0 (i := 8) (v := .pointer (some ⟨p, 0, none⟩)) rfl hL0 ?_
    refine tk (i := 9) (v := .agg DV0) rfl (yields_row (by kernel_rfl) 25 _ rfl (p) rfl 25 DV0 (0, 0) _ (fun W h => h.2.1) Tryz.underlying25 rfl HID.o) hL0 ?_
    simp only [Act.put,zA,zB,zC,zD,zE,zF]
    change wpAnyH _ _ _ _ _ 20 #[true, true, true, true, true, true, true, true, true, true, false, false, false, false, false, false, false, false, false, false, false, false, false, false, false, false, false, false, false, false] _ _
    refine rd1 10 rfl fun K hK => ?_
    simp only [zA, zB, zC]
    go_wp2_with fail
    refine (HFO.o _ (hL0).2.2.2).mono ?_
    rintro e wx0 ⟨rfl, hfx0⟩
    dsimp only
    refine hK.out _ _ (⟨hfx0.keep (hL0).1 (fun h => h), hfx0.keep (hL0).2.1 (fun h => h), hfx0.keep (hL0).2.2.1 (fun h => h), (hL0).2.2.2.then0 hfx0⟩) (fun hL1 => ?_)
    clear hK K hL0
    refine tk (i := 11) (v := .bool false) rfl (Or.inl ⟨by kernel_rfl, fun w hSw => by go_simp <;> (first | exact beq_iff_eq.1 (by assumption) | exact beq_eq_false_iff_ne.1 (by assumption) | omega)⟩) hL1 ?_
    refine tk0 (i := 12) (v := .bool false) rfl hL1 ?_
    simp only [Act.put,zA,zB,zC,zD,zE,zF]
    refine tk0 (i := 13) (v := .bool false) rfl hL1 ?_
    refine tk0 (i := 14) (v := .pointer (some ⟨r, 0, none⟩)) rfl hL1 ?_
    simp only [Act.put,zA,zB,zC,zD,zE,zF]
    refine tk0 (i := 15) (v := .pointer (some ⟨r, 0, none⟩)) rfl hL1 ?_
    refine tk (i := 16) (v := .agg RV0) rfl (yields_row (by kernel_rfl) 28 _ rfl (r) rfl 28 RV0 (0, 0) _ (fun W h => h.2.2.1) Tryz.underlying28 rfl HIR.o) hL1 ?_
    simp only [Act.put,zA,zB,zC,zD,zE,zF]
    refine tk0 (i := 17) (v := .pointer (some ⟨p, 0, none⟩)) rfl hL1 ?_
    refine tk0 (i := 18) (v := .pointer (some ⟨p, 0, none⟩)) rfl hL1 ?_
    simp only [Act.put,zA,zB,zC,zD,zE,zF]
    refine tk0 (i := 19) (v := .pointer (some ⟨p, 0, none⟩)) rfl hL1 ?_
    refine tk (i := 20) (v := .slice sa d.S.length sc) rfl (Or.inl ⟨by kernel_rfl, fun w hSw => by have hcl := (fun _ h => (Bk.cell h.2.1 0).trans D0.o) w hSw;go_simp⟩) hL1 ?_
    simp only [Act.put,zA,zB,zC,zD,zE,zF]
    refine tk (i := 21) (v := .int .i64 (d.S.length : Int)) rfl (Or.inl ⟨by kernel_rfl, fun w hSw => by go_simp⟩) hL1 ?_
    simp only [Act.put,zA,zB,zC,zD,zE,zF]
    change wpAnyH _ _ _ _ _ 8 #[true, true, true, true, true, true, true, true, true, true, true, true, true, true, true, true, true, true, true, true, true, true, false, false, false, false, false, false, false, false] _ _
    refine rd1 22 rfl fun K hK => ?_
    simp only [zA, zB, zC]
    go_wp2_with fail
    refine (HRI.o _ (hL1).2.2.2).mono ?_
    rintro e wx1 ⟨rfl, hfx1⟩
    dsimp only
    refine hK.out _ _ (⟨hfx1.keep (hL1).1 (fun h => h), hfx1.keep (hL1).2.1 (fun h => h), hfx1.keep (hL1).2.2.1 (fun h => h), (hL1).2.2.2.then0 hfx1⟩) (fun hL2 => ?_)
    clear hK K hL1
    refine tk (i := 23) (v := .bool false) rfl (Or.inl ⟨by kernel_rfl, fun w hSw => by go_simp <;> (first | exact beq_iff_eq.1 (by assumption) | exact beq_eq_false_iff_ne.1 (by assumption) | omega)⟩) hL2 ?_
    refine tk0 (i := 24) (v := .bool false) rfl hL2 ?_
    simp only [Act.put,zA,zB,zC,zD,zE,zF]
    refine tk0 (i := 25) (v := .bool false) rfl hL2 ?_
    refine tk (i := 26) (v := .agg X) rfl (yields_row (by kernel_rfl) 31 _ rfl (w.heap.size) rfl 31 X (0, 0) _ (fun W h => h.1) Tryz.underlying31 rfl HIP.o) hL2 ?_
    simp only [Act.put,zA,zB,zC,zD,zE,zF]
    change wpAnyH _ _ _ _ _ 3 #[true, true, true, true, true, true, true, true, true, true, true, true, true, true, true, true, true, true, true, true, true, true, true, true, true, true, true, false, false, false] _ _
    refine rd1 27 rfl fun K hK => ?_
    simp only [zA, zB, zC]
    go_wp2_with fail
    refine (HPR.o _).mono ?_
    rintro e wx2 ⟨rfl, hfx2⟩
    dsimp only
    refine hK.out _ _ (⟨hfx2.keep (hL2).1 (fun h => h), hfx2.keep (hL2).2.1 (fun h => h), hfx2.keep (hL2).2.2.1 (fun h => h), (hL2).2.2.2.then0 hfx2⟩) (fun hL3 => ?_)
    clear hK K hL2
    refine tk (i := 28) (v := .bool true) rfl (Or.inl ⟨by kernel_rfl, fun w hSw => by go_simp <;> (first | exact beq_iff_eq.1 (by assumption) | exact beq_eq_false_iff_ne.1 (by assumption) | omega)⟩) hL3 ?_
    refine tk0 (i := 29) (v := .bool true) rfl hL3 ?_
    simp only [Act.put,zA,zB,zC,zD,zE,zF]
    change wpAnyH _ _ _ _ _ 0 #[true, true, true, true, true, true, true, true, true, true, true, true, true, true, true, true, true, true, true, true, true, true, true, true, true, true, true, true, true, true] _ _
    refine wpAnyH_done (by kernel_rfl) ?_ _
    refine NoPanic.normal ?_
    have HEND := jq7 hL3
    clear hL3
    go_wp2
    go_ret
    exact ⟨rfl, HEND.o.2.2.2⟩
   | true =>
    go_enter Tryz.func20, Tryz.ntmps20
    go_wp2
    refine wp_region_noPanic ?_
    refine wp_region_held_drew (S := (fun W : World => Bk W w.heap.size X 31 ∧ Bk W p DV0 25 ∧ Bk W r RV0 28 ∧ Fr0 w W)) (by kernel_rfl) (⟨Fr.keep (S := fun _ => False) (Fr.drew (Fr.refl _ _)) HX1.o (fun h => h), Fr.keep (S := fun _ => False) (Fr.drew (Fr.refl _ _)) HD1.o (fun h => h), Fr.keep (S := fun _ => False) (Fr.drew (Fr.refl _ _)) HR1.o (fun h => h), Fr.drew HF1.o⟩) (fun hL0 => ?_)
    refine tk0 (i := 0) (v := .pointer (some ⟨p, 0, none⟩)) rfl hL0 ?_
    refine tk (i := 1) (v := .bool false) rfl (Or.inl ⟨by kernel_rfl, fun w hSw => by go_simp <;> (first | exact beq_iff_eq.1 (by assumption) | exact beq_eq_false_iff_ne.1 (by assumption) | omega)⟩) hL0 ?_
    simp only [Act.put,zA,zB,zC,zD,zE,zF]
    refine tk0 (i := 2) (v := .bool false) rfl hL0 ?_
    refine tk0 (i := 3) (v := .pointer (some ⟨r, 0, none⟩)) rfl hL0 ?_
    simp only [Act.put,zA,zB,zC,zD,zE,zF]
    refine tk (i := 4) (v := .bool false) rfl (Or.inl ⟨by kernel_rfl, fun w hSw => by go_simp <;> (first | exact beq_iff_eq.1 (by assumption) | exact beq_eq_false_iff_ne.1 (by assumption) | omega)⟩) hL0 ?_
    refine tk0 (i := 5) (v := .bool false) rfl hL0 ?_
    simp only [Act.put,zA,zB,zC,zD,zE,zF]
    refine tk0 (i := 6) (v := .bool false) rfl hL0 ?_
    refine tk0 (i := 7) (v := .pointer (some ⟨p, 0, none⟩)) rfl hL0 ?_
    simp only [Act.put,zA,zB,zC,zD,zE,zF]
    refine tk0 (i := 8) (v := .pointer (some ⟨p, 0, none⟩)) rfl hL0 ?_
    refine tk (i := 9) (v := .agg DV0) rfl (yields_row (by kernel_rfl) 25 _ rfl (p) rfl 25 DV0 (0, 0) _ (fun W h => h.2.1) Tryz.underlying25 rfl HID.o) hL0 ?_
    simp only [Act.put,zA,zB,zC,zD,zE,zF]
    change wpAnyH _ _ _ _ _ 20 #[true, true, true, true, true, true, true, true, true, true, false, false, false, false, false, false, false, false, false, false, false, false, false, false, false, false, false, false, false, false] _ _
    refine rd1 10 rfl fun K hK => ?_
    simp only [zA, zB, zC]
    go_wp2_with fail
    refine (HFO.o _ (hL0).2.2.2).mono ?_
    rintro e wx0 ⟨rfl, hfx0⟩
    dsimp only
    refine hK.out _ _ (⟨hfx0.keep (hL0).1 (fun h => h), hfx0.keep (hL0).2.1 (fun h => h), hfx0.keep (hL0).2.2.1 (fun h => h), (hL0).2.2.2.then0 hfx0⟩) (fun hL1 => ?_)
    clear hK K hL0
    refine tk (i := 11) (v := .bool false) rfl (Or.inl ⟨by kernel_rfl, fun w hSw => by go_simp <;> (first | exact beq_iff_eq.1 (by assumption) | exact beq_eq_false_iff_ne.1 (by assumption) | omega)⟩) hL1 ?_
    refine tk0 (i := 12) (v := .bool false) rfl hL1 ?_
    simp only [Act.put,zA,zB,zC,zD,zE,zF]
    refine tk0 (i := 13) (v := .bool false) rfl hL1 ?_
    refine tk0 (i := 14) (v := .pointer (some ⟨r, 0, none⟩)) rfl hL1 ?_
    simp only [Act.put,zA,zB,zC,zD,zE,zF]
    refine tk0 (i := 15) (v := .pointer (some ⟨r, 0, none⟩)) rfl hL1 ?_
    refine tk (i := 16) (v := .agg RV0) rfl (yields_row (by kernel_rfl) 28 _ rfl (r) rfl 28 RV0 (0, 0) _ (fun W h => h.2.2.1) Tryz.underlying28 rfl HIR.o) hL1 ?_
    simp only [Act.put,zA,zB,zC,zD,zE,zF]
    refine tk0 (i := 17) (v := .pointer (some ⟨p, 0, none⟩)) rfl hL1 ?_
    refine tk0 (i := 18) (v := .pointer (some ⟨p, 0, none⟩)) rfl hL1 ?_
    simp only [Act.put,zA,zB,zC,zD,zE,zF]
    refine tk0 (i := 19) (v := .pointer (some ⟨p, 0, none⟩)) rfl hL1 ?_
    refine tk (i := 20) (v := .slice sa d.S.length sc) rfl (Or.inl ⟨by kernel_rfl, fun w hSw => by have hcl := (fun _ h => (Bk.cell h.2.1 0).trans D0.o) w hSw;go_simp⟩) hL1 ?_
    simp only [Act.put,zA,zB,zC,zD,zE,zF]
    refine tk (i := 21) (v := .int .i64 (d.S.length : Int)) rfl (Or.inl ⟨by kernel_rfl, fun w hSw => by go_simp⟩) hL1 ?_
    simp only [Act.put,zA,zB,zC,zD,zE,zF]
    change wpAnyH _ _ _ _ _ 8 #[true, true, true, true, true, true, true, true, true, true, true, true, true, true, true, true, true, true, true, true, true, true, false, false, false, false, false, false, false, false] _ _
    refine rd1 22 rfl fun K hK => ?_
    simp only [zA, zB, zC]
    go_wp2_with fail
    refine (HRI.o _ (hL1).2.2.2).mono ?_
    rintro e wx1 ⟨rfl, hfx1⟩
    dsimp only
    refine hK.out _ _ (⟨hfx1.keep (hL1).1 (fun h => h), hfx1.keep (hL1).2.1 (fun h => h), hfx1.keep (hL1).2.2.1 (fun h => h), (hL1).2.2.2.then0 hfx1⟩) (fun hL2 => ?_)
    clear hK K hL1
    refine tk (i := 23) (v := .bool false) rfl (Or.inl ⟨by kernel_rfl, fun w hSw => by go_simp <;> (first | exact beq_iff_eq.1 (by assumption) | exact beq_eq_false_iff_ne.1 (by assumption) | omega)⟩) hL2 ?_
    refine tk0 (i := 24) (v := .bool false) rfl hL2 ?_
    simp only [Act.put,zA,zB,zC,zD,zE,zF]
    refine tk0 (i := 25) (v := .bool false) rfl hL2 ?_
    refine tk (i := 26) (v := .agg X) rfl (yields_row (by kernel_rfl) 31 _ rfl (w.heap.size) rfl 31 X (0, 0) _ (fun W h => h.1) Tryz.underlying31 rfl HIP.o) hL2 ?_
    simp only [Act.put,zA,zB,zC,zD,zE,zF]
    change wpAnyH _ _ _ _ _ 3 #[true, true, true, true, true, true, true, true, true, true, true, true, true, true, true, true, true, true, true, true, true, true, true, true, true, true, true, false, false, false] _ _
    refine rd1 27 rfl fun K hK => ?_
    simp only [zA, zB, zC]
    go_wp2_with fail
    refine (HPR.o _).mono ?_
    rintro e wx2 ⟨rfl, hfx2⟩
    dsimp only
    refine hK.out _ _ (⟨hfx2.keep (hL2).1 (fun h => h), hfx2.keep (hL2).2.1 (fun h => h), hfx2.keep (hL2).2.2.1 (fun h => h), (hL2).2.2.2.then0 hfx2⟩) (fun hL3 => ?_)
    clear hK K hL2
    refine tk (i := 28) (v := .bool false) rfl (Or.inl ⟨by kernel_rfl, fun w hSw => by go_simp <;> (first | exact beq_iff_eq.1 (by assumption) | exact beq_eq_false_iff_ne.1 (by assumption) | omega)⟩) hL3 ?_
    refine tk0 (i := 29) (v := .bool false) rfl hL3 ?_
    simp only [Act.put,zA,zB,zC,zD,zE,zF]
    change wpAnyH _ _ _ _ _ 0 #[true, true, true, true, true, true, true, true, true, true, true, true, true, true, true, true, true, true, true, true, true, true, true, true, true, true, true, true, true, true] _ _
    refine wpAnyH_done (by kernel_rfl) ?_ _
    refine NoPanic.normal ?_
    have HEND := jq7 hL3
    clear hL3
    have c0 := (Bk.cell HEND.o.2.1 0).trans D0.o
    have q0 := (Bk.cell HEND.o.1 0).trans P0.o
    have q1 := (Bk.cell HEND.o.1 1).trans P1.o
    cases u1 with
    | false =>
     go_wp2_with (first | (go_at_call 40;(with_reducible refine (HHF.o _).mono ?_);rintro e w7 ⟨rfl, rfl⟩) | (go_at_call 41;(with_reducible refine (HU1.o _).mono ?_);rintro e w8 ⟨rfl, rfl⟩))
     go_ret
     exact ⟨rfl, HEND.o.2.2.2⟩
    | true =>
     go_wp2_with (first | (go_at_call 40;(with_reducible refine (HHF.o _).mono ?_);rintro e w7 ⟨rfl, rfl⟩) | (go_at_call 41;(with_reducible refine (HU1.o _).mono ?_);rintro e w8 ⟨rfl, rfl⟩) | (go_at_call 41;(with_reducible refine (HU2.o _).mono ?_);rintro e w8 ⟨rfl, rfl⟩))
     go_ret
     exact ⟨rfl, HEND.o.2.2.2⟩

end Go.Proofs.YtmkmpfnadcmcoaaGreatDoor.DitHome
namespace Go.Proofs.YtmkmpfnadcmcoaaGreatDoor.DitRead
open Go Go.RowKit K EqKit ArrKit HeldKit GKit GRow DiskKit RmKit MapKit ShaStep RmRight RmRRight RmTab RmPut RmAsk RmSame DiskRRead RmRead RmReads DiskAct RmSpare RmKeep RmAliveP RmWrX RmWrite RmPair RowG PtrKit DitKit DitAsk DitHome
theorem read_calls (p r : Nat) (d : Dk) (m : Rm) (a b q : Int) (s : List UInt8) (w : World) (hok : d.ok) (hm : m.ok) (hps : PS w p r d m) (hsh : Sh w) (hs : s.length = 32) (ha : (Lit.int .i64 a).wf = true) (hb : (Lit.int .i64 b).wf = true) (hq : (Lit.int .i64 q).wf = true) : Calls Tryz.prog 23 #[.pointer (some ⟨p, 0, none⟩), .pointer (some ⟨r, 0, none⟩), .agg (PC a b s).toArray, .int .i64 q] w fun e w' => e = .returned (.tuple #[.agg ((rdG d m a b s q).1.map B).toArray, .bool (rdG d m a b s q).2]) ∧ Fr0 w w' := by
 obtain ⟨⟨sa, sc, ca, cc, hv⟩, ra, rc, hb1, hrv⟩ := hps
 have HRE : Jq7 (∀ W, Fr0 w W → Calls Tryz.prog 43 #[.pointer (some ⟨p, 0, none⟩), .agg (rval m ra rc), .int .i64 q] W fun e w' => e = .returned (readV (rdX d m q)) ∧ Fr0 W w') := jq7 (fun W f => rmread_calls p d sa sc ca cc m ra rc q W hok (hv.keep f) hm (hrv.keep f) hq)
 have hl := rdX_len hok m q
 have HFI : Jq7 (∀ W, Fr0 w W → Calls Tryz.prog 44 #[.agg (PC a b s).toArray, .agg ((rdX d m q).1.map B).toArray] W fun e w' => e = .returned (.bool (PtrFitB.fitB a b s (rdX d m q).1)) ∧ Fr0 W w') := jq7 (fun W f => by
  obtain ⟨⟨tk, hK⟩, ⟨tb, hB⟩⟩ := hsh.keep0 f
  exact PtrFitB.fits_calls a b s _ W hs hl ha hb hK hB)
 have HIP := jq7 (info_ptr a b hs)
 have HIR : Jq7 ((Tryz.prog.info? 28).map (·.size) = some (rval m ra rc).size) := jq7 (info_r _ _)
 have HIL := jq7 (info_l hl)
 have HSL := jq7 (size_l hl)
 have HOL := jq7 (one_l (rdX d m q).1)
 unfold rdG
 unfold readV at HRE
 try simp only at HRE
 generalize PtrFitB.fitB a b s (rdX d m q).1 = fb at *
 generalize ((rdX d m q).1.map B).toArray = LB at *
 generalize (rdX d m q).2 = ee at *
 have hf1 : ∀ X : Array Value, Fr0 w ((w.alloc (.cells X 31)).alloc (.cells ZB 36)) := fun X => Fr.alloc (Fr.alloc (Fr.refl _ _) _) _
 have HR2 := fun X : Array Value => (hf1 X).keep hb1 (fun h => h)
 have hs1 : ∀ X : Array Value, (w.alloc (.cells X 31)).heap.size = w.heap.size + 1 := fun X => by simp
 generalize (PC a b s).toArray = X at *
 replace HR2 := jq7 (HR2 X)
 have HF2 := jq7 (hf1 X)
 have HX2 : Jq7 (Bk ((w.alloc (.cells X 31)).alloc (.cells ZB 36)) w.heap.size X 31) := jq7 (Bk.alloc (Bk.new w _) _)
 have HZ2 : Jq7 (Bk ((w.alloc (.cells X 31)).alloc (.cells ZB 36)) (w.heap.size + 1) ZB 36) := jq7 (by have := Bk.new (w.alloc (.cells X 31)) (.cells ZB 36);rwa [hs1] at this)
 have hzb := zero_bl
 clear hok hm hv hb1 hrv hsh hs ha hb hq hl hf1 hs1
 generalize rval m ra rc = RV0 at *
 go_enter Tryz.func23, Tryz.ntmps23
 go_wp2_with (first | ((with_reducible show wkq (.load 28 _) _);refine lr 28 r RV0 HR2.o HIR.o ?_) | (go_at_call 43;(with_reducible refine (HRE.o _ HF2.o).mono ?_);rintro e w3 ⟨rfl, hf3⟩;have HZ3 := jq7 (Bk.new w3 (.cells ZB 36));have hfx : Fr0 ((w.alloc (.cells X 31)).alloc (.cells ZB 36)) ((w3.alloc (.cells ZB 36)).setRow w3.heap.size LB) := hf3.then0 (ArrKit.Fr.row (Fr.alloc (Fr.refl _ _) _) _ _ (.inl (Nat.le_refl _)));have HX4 := kq0 hfx HX2;have HZ4 := kq0 hfx HZ2;have HF4 := fq0 HF2 hfx;have HB4 : Jq7 (Bk ((w3.alloc (.cells ZB 36)).setRow w3.heap.size LB) w3.heap.size LB 36) := jq7 (ArrKit.Bk.row HZ3.o _);have HG4 : Jq7 (w.heap.size + 1 < w3.heap.size) := jq7 (Bk.lt (hf3.keep HZ2.o (fun h => h)));clear hf3 hfx) | ((with_reducible show wkq (.store 36 _ _) _);refine wpList_store_row rfl 36 _ _ rfl w3.heap.size LB rfl rfl 36 ZB HZ3.o HIL.o HSL.o HOL.o ?_))
 clear HZ3
 generalize ((w3.alloc (.cells ZB 36)).setRow w3.heap.size LB) = w4 at *
 generalize w3.heap.size = g4 at *
 by_cases he0 : ee = 0
 ·subst he0
  refine wp_region_noPanic ?_
  refine wp_region_held_drew (S := (fun W : World => Bk W w.heap.size X 31 ∧ Bk W g4 LB 36 ∧ Fr0 w W)) (by kernel_rfl) (⟨Fr.keep (S := fun _ => False) (Fr.drew (Fr.refl _ _)) HX4.o (fun h => h), Fr.keep (S := fun _ => False) (Fr.drew (Fr.refl _ _)) HB4.o (fun h => h), Fr.drew HF4.o⟩) (fun hL0 => ?_)
  have HZ5 : Jq7 (Bk w4.drew (w.heap.size + 1) ZB 36) := jq7 (Fr.keep (S := fun _ => False) (Fr.drew (Fr.refl _ _)) HZ4.o (fun h => h))
  generalize w4.drew = wd at *
  refine tk (i := 0) (v := .agg LB) rfl (yields_row (by kernel_rfl) 36 _ rfl (g4) rfl 36 LB (0, 0) _ (fun W h => h.2.1) Tryz.underlying36 rfl HIL.o) hL0 ?_
  refine tk0 (i := 1) (v := .int .i64 0) rfl hL0 ?_
  simp only [Act.put,zA,zB,zC,zD,zE,zF]
  refine tk (i := 2) (v := .bool true) rfl (Or.inl ⟨by kernel_rfl, fun w hSw => by go_simp <;> (first | exact beq_iff_eq.1 (by assumption) | exact beq_eq_false_iff_ne.1 (by assumption) | omega)⟩) hL0 ?_
  refine tk0 (i := 3) (v := .bool true) rfl hL0 ?_
  simp only [Act.put,zA,zB,zC,zD,zE,zF]
  refine tk (i := 4) (v := .agg X) rfl (yields_row (by kernel_rfl) 31 _ rfl (w.heap.size) rfl 31 X (0, 0) _ (fun W h => h.1) Tryz.underlying31 rfl HIP.o) hL0 ?_
  refine tk (i := 5) (v := .agg LB) rfl (yields_row (by kernel_rfl) 36 _ rfl (g4) rfl 36 LB (0, 0) _ (fun W h => h.2.1) Tryz.underlying36 rfl HIL.o) hL0 ?_
  simp only [Act.put,zA,zB,zC,zD,zE,zF]
  change wpAnyH _ _ _ _ _ 4 #[true, true, true, true, true, true, false, false, false, false] _ _
  refine rd1 6 rfl fun K hK => ?_
  simp only [zA, zB, zC]
  go_wp2_with fail
  refine (HFI.o _ (hL0).2.2).mono ?_
  rintro e wx0 ⟨rfl, hfx0⟩
  dsimp only
  replace HZ5 := kq0 hfx0 HZ5
  refine hK.out _ _ (⟨hfx0.keep (hL0).1 (fun h => h), hfx0.keep (hL0).2.1 (fun h => h), (hL0).2.2.then0 hfx0⟩) (fun hL1 => ?_)
  clear hK K hL0
  clear hfx0
  refine tk0 (i := 7) (v := .bool fb) rfl hL1 ?_
  simp only [Act.put,zA,zB,zC,zD,zE,zF]
  change wpAnyH _ _ _ _ _ 2 #[true, true, true, true, true, true, true, true, false, false] _ _
  refine rd1 8 rfl fun K hK => ?_
  simp only [zA, zB, zC]
  have hg4 := HG4.o
  refine wp_store_row 36 _ _ rfl (w.heap.size + 1) LB rfl rfl 36 _ HZ5.o HIL.o HSL.o HOL.o ?_
  replace HZ5 : Jq7 (Bk (wx0.setRow (w.heap.size + 1) LB) (w.heap.size + 1) LB 36) := jq7 (ArrKit.Bk.row HZ5.o _)
  refine hK.out _ _ (⟨ArrKit.Bk.rowOther (hL1).1 _ (by omega), ArrKit.Bk.rowOther (hL1).2.1 _ (by omega), ArrKit.Fr.row (hL1).2.2 _ _ (.inl (by omega))⟩) (fun hL2 => ?_)
  clear hK K hL1
  generalize (wx0.setRow (w.heap.size + 1) LB) = wx1 at *
  refine tk0 (i := 9) (v := .bool fb) rfl hL2 ?_
  simp only [Act.put,zA,zB,zC,zD,zE,zF]
  change wpAnyH _ _ _ _ _ 0 #[true, true, true, true, true, true, true, true, true, true] _ _
  refine wpAnyH_done (by kernel_rfl) ?_ _
  refine NoPanic.normal ?_
  have HEND := jq7 hL2
  clear hL2
  go_wp2
  refine fin_ct (w.heap.size + 1) 36 LB (.bool fb) (by rfl) (by rfl) (by rfl) (by rfl) Tryz.underlying36 (by rfl) HIL.o HZ5.o ?_
  exact ⟨by simp, HEND.o.2.2⟩
 ·have heb : (ee == 0) = false := by simpa using he0
  refine wp_region_noPanic ?_
  refine wp_region_held_drew (S := (fun W : World => Bk W w.heap.size X 31 ∧ Bk W g4 LB 36 ∧ Fr0 w W)) (by kernel_rfl) (⟨Fr.keep (S := fun _ => False) (Fr.drew (Fr.refl _ _)) HX4.o (fun h => h), Fr.keep (S := fun _ => False) (Fr.drew (Fr.refl _ _)) HB4.o (fun h => h), Fr.drew HF4.o⟩) (fun hL0 => ?_)
  have HZ5 : Jq7 (Bk w4.drew (w.heap.size + 1) ZB 36) := jq7 (Fr.keep (S := fun _ => False) (Fr.drew (Fr.refl _ _)) HZ4.o (fun h => h))
  generalize w4.drew = wd at *
  refine tk (i := 0) (v := .agg LB) rfl (yields_row (by kernel_rfl) 36 _ rfl (g4) rfl 36 LB (0, 0) _ (fun W h => h.2.1) Tryz.underlying36 rfl HIL.o) hL0 ?_
  refine tk0 (i := 1) (v := .int .i64 ee) rfl hL0 ?_
  simp only [Act.put,zA,zB,zC,zD,zE,zF]
  refine tk (i := 2) (v := .bool false) rfl (Or.inl ⟨by kernel_rfl, fun w hSw => by go_simp <;> (first | exact beq_iff_eq.1 (by assumption) | exact beq_eq_false_iff_ne.1 (by assumption) | omega)⟩) hL0 ?_
  refine tk0 (i := 3) (v := .bool false) rfl hL0 ?_
  simp only [Act.put,zA,zB,zC,zD,zE,zF]
  refine tk (i := 4) (v := undef) rfl (Or.inr ⟨by kernel_rfl, rfl⟩) hL0 ?_
  refine tk (i := 5) (v := undef) rfl (Or.inr ⟨by kernel_rfl, rfl⟩) hL0 ?_
  simp only [Act.put,zA,zB,zC,zD,zE,zF]
  refine tk (i := 6) (v := undef) rfl (Or.inr ⟨by kernel_rfl, rfl⟩) hL0 ?_
  refine tk0 (i := 7) (v := .bool false) rfl hL0 ?_
  simp only [Act.put,zA,zB,zC,zD,zE,zF]
  change wpAnyH _ _ _ _ _ 2 #[true, true, true, true, true, true, true, true, false, false] _ _
  refine rd1 8 rfl fun K hK => ?_
  simp only [zA, zB, zC]
  have hg4 := HG4.o
  refine wp_store_row 36 _ _ rfl (w.heap.size + 1) LB rfl rfl 36 _ HZ5.o HIL.o HSL.o HOL.o ?_
  replace HZ5 : Jq7 (Bk (wd.setRow (w.heap.size + 1) LB) (w.heap.size + 1) LB 36) := jq7 (ArrKit.Bk.row HZ5.o _)
  refine hK.out _ _ (⟨ArrKit.Bk.rowOther (hL0).1 _ (by omega), ArrKit.Bk.rowOther (hL0).2.1 _ (by omega), ArrKit.Fr.row (hL0).2.2 _ _ (.inl (by omega))⟩) (fun hL1 => ?_)
  clear hK K hL0
  generalize (wd.setRow (w.heap.size + 1) LB) = wx0 at *
  refine tk0 (i := 9) (v := .bool false) rfl hL1 ?_
  simp only [Act.put,zA,zB,zC,zD,zE,zF]
  change wpAnyH _ _ _ _ _ 0 #[true, true, true, true, true, true, true, true, true, true] _ _
  refine wpAnyH_done (by kernel_rfl) ?_ _
  refine NoPanic.normal ?_
  have HEND := jq7 hL1
  clear hL1
  go_wp2
  refine fin_ct (w.heap.size + 1) 36 LB (.bool false) (by rfl) (by rfl) (by rfl) (by rfl) Tryz.underlying36 (by rfl) HIL.o HZ5.o ?_
  exact ⟨by rw [decide_eq_false he0];rfl, HEND.o.2.2⟩

end Go.Proofs.YtmkmpfnadcmcoaaGreatDoor.DitRead
