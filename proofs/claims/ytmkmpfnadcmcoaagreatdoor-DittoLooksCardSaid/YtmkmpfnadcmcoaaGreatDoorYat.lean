/- The theorems that the claim uses, text behind text (part 20). -/
import Derived.Test.YtmkmpfnadcmcoaaGreatDoorYas
set_option maxRecDepth 100000
set_option maxHeartbeats 8000000
set_option linter.unusedVariables false
set_option linter.unusedSimpArgs false
namespace Go.Proofs.YtmkmpfnadcmcoaaGreatDoor.RmKeep
open Go Go.RowKit K EqKit ArrKit HeldKit GKit GRow DiskKit RmKit MapKit RmRight RmRRight RmTab RmPut RmAsk RmSame DiskRRead RmRead RmReads DiskAct RmSpare
def keepX (d : Dk) (m : Rm) : Int × Dk :=
 if tabB m (d.S.length : Int) = true then
  if writeE d (m.gen % 2) ≠ 0 ∧ writeE d (m.gen % 2) ≠ 2 then (writeE d (m.gen % 2), writeD d (m.gen % 2) (tabL m)) else
  if writeE (writeD d (m.gen % 2) (tabL m)) (half (d.S.length : Int) + m.gen % 2) ≠ 0 ∧ writeE (writeD d (m.gen % 2) (tabL m)) (half (d.S.length : Int) + m.gen % 2) ≠ 2 then (writeE (writeD d (m.gen % 2) (tabL m)) (half (d.S.length : Int) + m.gen % 2), writeD (writeD d (m.gen % 2) (tabL m)) (half (d.S.length : Int) + m.gen % 2) (tabL m)) else
  if writeE d (m.gen % 2) = 2 ∧ writeE (writeD d (m.gen % 2) (tabL m)) (half (d.S.length : Int) + m.gen % 2) = 2 then (2, writeD (writeD d (m.gen % 2) (tabL m)) (half (d.S.length : Int) + m.gen % 2) (tabL m)) else
  (flushE (writeD (writeD d (m.gen % 2) (tabL m)) (half (d.S.length : Int) + m.gen % 2) (tabL m)), flushD (writeD (writeD d (m.gen % 2) (tabL m)) (half (d.S.length : Int) + m.gen % 2) (tabL m)))
 else (1, d)
theorem keepX_no {d : Dk} {m : Rm} (h : tabB m (d.S.length : Int) = false) : keepX d m = (1, d) := by unfold keepX;rw [if_neg (by simp [h])]
section
variable {d : Dk} {m : Rm} {e1 e2 g2 q : Int} {d1 d2 : Dk} (h : tabB m (d.S.length : Int) = true) (hg : m.gen % 2 = g2) (hq : half (d.S.length : Int) + g2 = q) (he1 : writeE d g2 = e1) (hd1 : writeD d g2 (tabL m) = d1)
include h hg hq he1 hd1
theorem keepX_1 (k0 : e1 ≠ 0) (k2 : e1 ≠ 2) : keepX d m = (e1, d1) := by
 subst hg hq he1 hd1
 unfold keepX
 rw [if_pos h, if_pos ⟨k0, k2⟩]
variable (he2 : writeE d1 q = e2) (hd2 : writeD d1 q (tabL m) = d2) (k1 : e1 = 0 ∨ e1 = 2)
include he2 hd2 k1
theorem keepX_2 (k0 : e2 ≠ 0) (k2 : e2 ≠ 2) : keepX d m = (e2, d2) := by
 subst hg hq hd1 he2 hd2
 unfold keepX
 rw [if_pos h, he1, if_neg (by omega), if_pos ⟨k0, k2⟩]
theorem keepX_22 (k0 : e1 = 2) (k2 : e2 = 2) : keepX d m = (2, d2) := by
 have hk := k1
 subst hg hq hd1 hd2
 unfold keepX
 rw [if_pos h, he1, he2, if_neg (by omega), if_neg (by omega), if_pos ⟨k0, k2⟩]
theorem keepX_f (k2 : e2 = 0 ∨ e2 = 2) (k3 : ¬ (e1 = 2 ∧ e2 = 2)) : keepX d m = (flushE d2, flushD d2) := by
 subst hg hq hd1 hd2
 unfold keepX
 rw [if_pos h, he1, he2, if_neg (by omega), if_neg (by omega), if_neg k3]
end
theorem keep_calls (p : Nat) (d : Dk) (sa : Option Addr) (sc : Nat) (ca : Option Addr) (cc : Nat) (m : Rm) (a : Option Addr) (c : Nat) (w : World) (hok : d.ok) (hv : DAt w p d sa sc ca cc) (hm : m.ok) (hr : RV w m a c) (hsh : Sh w) (hC : d.C.length ≤ 2000) (hS : half (d.S.length : Int) ≠ 0) : Calls Tryz.prog 63 #[.pointer (some ⟨p, 0, none⟩), .agg (rval m a c)] w fun e w' => e = .returned (.int .i64 (keepX d m).1) ∧ Now w w' p (keepX d m).2 := by
 have HX : Jq7 (Bk (w.alloc (.cells (rval m a c) 28)) w.heap.size (rval m a c) 28) := jq7 (Bk.new w _)
 have HF : Jq7 (Fr0 w (w.alloc (.cells (rval m a c) 28))) := jq7 (Fr.alloc (Fr.refl _ _) _)
 have HV : Jq7 (DAt (w.alloc (.cells (rval m a c) 28)) p d sa sc ca cc) := jq7 (hv.keep (Fr.alloc (Fr.refl _ _) _))
 have hpw : p < w.heap.size := Bk.lt hv.blk
 have c0 : w.cell? ⟨p, 0, none⟩ = some (.slice sa d.S.length sc) := Bk.cell hv.blk 0
 have c0a : (w.alloc (.cells (rval m a c) 28)).cell? ⟨p, 0, none⟩ = some (.slice sa d.S.length sc) := Bk.cell HV.o.blk 0
 have HIN : Jq7 ((Tryz.prog.info? 28).map (·.size) = some (rval m a c).size) := jq7 (info_r _ _)
 have hzb := zero_bl
 have HPU : Jq7 (∀ W, Fr0 w W → Calls Tryz.prog 54 #[.agg (rval m a c), .int .i64 (d.S.length : Int)] W fun e w' => e = .returned (.tuple #[.agg ((tabX m (d.S.length : Int)).map B).toArray, .int .i64 (tabE m (d.S.length : Int))]) ∧ Fr0 W w') := jq7 (fun W f => RmPut.put_calls m a c _ W hm (hr.keep f) (wf_nat (Nat.le_trans hv.v.sn hv.v.sm)) (hsh.keep0 f))
 clear hm hr hsh
 have HVW := jq7 hv
 have HC0 : Jq7 (∀ W, Fr0 w W → W.cell? ⟨p, 0, none⟩ = some (.slice sa d.S.length sc)) := jq7 (fun W f => Bk.cell (hv.keep f).blk 0)
 clear hv
 generalize hX : rval m a c = X at *
 have HXX := jq7 hX
 clear hX
 cases ht : tabB m (d.S.length : Int) with
 | false =>
  have e1 : tabX m (d.S.length : Int) = Z128 := by unfold tabX;rw [if_neg (by simp [ht])]
  have e2 : tabE m (d.S.length : Int) = 1 := by unfold tabE;rw [if_neg (by simp [ht])]
  rw [e1, e2] at HPU
  rw [keepX_no ht]
  clear e1 e2 ht
  go_enter Tryz.func63, Tryz.ntmps63
  go_wp2
  refine wp_region_noPanic ?_
  refine wp_region_held_drew (S := (fun W : World => Bk W w.heap.size X 28 ∧ Fr0 w W)) (by kernel_rfl) (⟨HX.o, Fr.drew HF.o⟩) (fun hL0 => ?_)
  generalize (w.alloc (.cells X 28)).drew = wd at *
  refine tk (i := 0) (v := .agg X) rfl (yields_row (by kernel_rfl) 28 _ rfl (w.heap.size) rfl 28 X (0, 0) _ (fun W h => h.1) Tryz.underlying28 rfl HIN.o) hL0 ?_
  refine tk0 (i := 1) (v := .pointer (some ⟨p, 0, none⟩)) rfl hL0 ?_
  simp only [Act.put,zA,zB,zC,zD,zE,zF]
  refine tk0 (i := 2) (v := .pointer (some ⟨p, 0, none⟩)) rfl hL0 ?_
  refine tk0 (i := 3) (v := .pointer (some ⟨p, 0, none⟩)) rfl hL0 ?_
  simp only [Act.put,zA,zB,zC,zD,zE,zF]
  refine tk (i := 4) (v := .slice sa d.S.length sc) rfl (Or.inl ⟨by kernel_rfl, fun w hSw => by have hcl := (fun _ h => HC0.o _ h.2) w hSw;go_simp⟩) hL0 ?_
  refine tk (i := 5) (v := .int .i64 (d.S.length : Int)) rfl (Or.inl ⟨by kernel_rfl, fun w hSw => by go_simp⟩) hL0 ?_
  simp only [Act.put,zA,zB,zC,zD,zE,zF]
  change wpAnyH _ _ _ _ _ 7 #[true, true, true, true, true, true, false, false, false, false, false, false, false] _ _
  refine wpAnyH_ready (rs := [6, 10]) (by kernel_rfl) (by simp) ?_
  refine AllReadyH.cons rfl (fun K hK => ?_) (AllReadyH.cons rfl (fun K hK => ?_) (AllReadyH.nil))
  ·simp only [zA, zB, zC]
   refine (if_pos (by kernel_rfl)).mpr ?_
   go_wp2_with fail
   refine (HPU.o _ (hL0).2).mono ?_
   rintro e wx0 ⟨rfl, hfx0⟩
   dsimp only
   refine hK.out _ _ (⟨hfx0.keep (hL0).1 (fun h => h), (hL0).2.then0 hfx0⟩) (fun hL1 => ?_)
   clear hK K hL0
   refine tk0 (i := 7) (v := .tuple #[.agg (Z128.map B).toArray, .int .i64 1]) rfl hL1 ?_
   refine tk (i := 8) (v := .agg (Z128.map B).toArray) rfl (Or.inl ⟨by kernel_rfl, fun w hSw => by go_simp⟩) hL1 ?_
   simp only [Act.put,zA,zB,zC,zD,zE,zF]
   refine tk (i := 9) (v := .int .i64 1) rfl (Or.inl ⟨by kernel_rfl, fun w hSw => by go_simp⟩) hL1 ?_
   simp only [Act.put,zA,zB,zC,zD,zE,zF]
   change wpAnyH _ _ _ _ _ 3 #[true, true, true, true, true, true, true, true, true, true, false, false, false] _ _
   refine rd1 10 rfl fun K hK => ?_
   simp only [zA, zB, zC]
   have hk0 := hL1
   go_wp2_with fail
   refine hK.out _ _ (⟨Bk.alloc (hL1).1 _, Fr.alloc (hL1).2 _⟩) (fun hL2 => ?_)
   clear hK K hL1
   have HGB1 : Jq7 (Bk (wx0.alloc (.cells ZB 36)) wx0.heap.size ZB 36) := jq7 (Bk.new _ _)
   have HGE : Jq7 (w.heap.size + 1 ≤ wx0.heap.size) := jq7 (Bk.lt (hk0).1)
   generalize (wx0.alloc (.cells ZB 36)) = wy1 at *
   generalize wx0.heap.size = gb at *
   clear hk0
   change wpAnyH _ _ _ _ _ 2 #[true, true, true, true, true, true, true, true, true, true, true, false, false] _ _
   refine rd1 11 rfl fun K hK => ?_
   simp only [zA, zB, zC]
   have hge := HGE.o
   refine wp_store_row 36 _ _ rfl gb (Z128.map B).toArray rfl rfl 36 ZB HGB1.o (info_l Z128_len) (size_l Z128_len) (one_l _) ?_
   refine hK.out _ _ (⟨ArrKit.Bk.rowOther (hL2).1 _ (by omega), ArrKit.Fr.row (hL2).2 _ _ (.inl (by omega))⟩) (fun hL3 => ?_)
   clear hK K hL2
   have HGF : Jq7 (Bk (wy1.setRow gb (Z128.map B).toArray) gb (Z128.map B).toArray 36) := jq7 (ArrKit.Bk.row HGB1.o _)
   generalize (wy1.setRow gb (Z128.map B).toArray) = w3 at *
   refine tk0 (i := 12) (v := .int .i64 1) rfl hL3 ?_
   simp only [Act.put,zA,zB,zC,zD,zE,zF]
   change wpAnyH _ _ _ _ _ 0 #[true, true, true, true, true, true, true, true, true, true, true, true, true] _ _
   refine wpAnyH_done (by kernel_rfl) ?_ _
   refine NoPanic.normal ?_
   have HEND := jq7 hL3
   clear hL3
   go_wp2
   go_ret
   exact ⟨rfl, ⟨⟨_, _, _, _, HVW.o.keep HEND.o.2⟩, HEND.o.2.weaken (fun _ _ h => h.elim)⟩⟩
  ·simp only [zA, zB, zC]
   refine (if_pos (by kernel_rfl)).mpr ?_
   have hk0 := hL0
   go_wp2_with fail
   refine hK.out _ _ (⟨Bk.alloc (hL0).1 _, Fr.alloc (hL0).2 _⟩) (fun hL1 => ?_)
   clear hK K hL0
   have HGB0 : Jq7 (Bk (wd.alloc (.cells ZB 36)) wd.heap.size ZB 36) := jq7 (Bk.new _ _)
   have HGE : Jq7 (w.heap.size + 1 ≤ wd.heap.size) := jq7 (Bk.lt (hk0).1)
   generalize (wd.alloc (.cells ZB 36)) = wy0 at *
   generalize wd.heap.size = gb at *
   clear hk0
   change wpAnyH _ _ _ _ _ 6 #[true, true, true, true, true, true, false, false, false, false, true, false, false] _ _
   refine rd1 6 rfl fun K hK => ?_
   simp only [zA, zB, zC]
   go_wp2_with fail
   refine (HPU.o _ (hL1).2).mono ?_
   rintro e wx1 ⟨rfl, hfx1⟩
   dsimp only
   refine hK.out _ _ (⟨hfx1.keep (hL1).1 (fun h => h), (hL1).2.then0 hfx1⟩) (fun hL2 => ?_)
   clear hK K hL1
   have HGB1 := kq0 hfx1 HGB0
   refine tk0 (i := 7) (v := .tuple #[.agg (Z128.map B).toArray, .int .i64 1]) rfl hL2 ?_
   refine tk (i := 8) (v := .agg (Z128.map B).toArray) rfl (Or.inl ⟨by kernel_rfl, fun w hSw => by go_simp⟩) hL2 ?_
   simp only [Act.put,zA,zB,zC,zD,zE,zF]
   refine tk (i := 9) (v := .int .i64 1) rfl (Or.inl ⟨by kernel_rfl, fun w hSw => by go_simp⟩) hL2 ?_
   simp only [Act.put,zA,zB,zC,zD,zE,zF]
   change wpAnyH _ _ _ _ _ 2 #[true, true, true, true, true, true, true, true, true, true, true, false, false] _ _
   refine rd1 11 rfl fun K hK => ?_
   simp only [zA, zB, zC]
   have hge := HGE.o
   refine wp_store_row 36 _ _ rfl gb (Z128.map B).toArray rfl rfl 36 ZB HGB1.o (info_l Z128_len) (size_l Z128_len) (one_l _) ?_
   refine hK.out _ _ (⟨ArrKit.Bk.rowOther (hL2).1 _ (by omega), ArrKit.Fr.row (hL2).2 _ _ (.inl (by omega))⟩) (fun hL3 => ?_)
   clear hK K hL2
   have HGF : Jq7 (Bk (wx1.setRow gb (Z128.map B).toArray) gb (Z128.map B).toArray 36) := jq7 (ArrKit.Bk.row HGB1.o _)
   generalize (wx1.setRow gb (Z128.map B).toArray) = w3 at *
   refine tk0 (i := 12) (v := .int .i64 1) rfl hL3 ?_
   simp only [Act.put,zA,zB,zC,zD,zE,zF]
   change wpAnyH _ _ _ _ _ 0 #[true, true, true, true, true, true, true, true, true, true, true, true, true] _ _
   refine wpAnyH_done (by kernel_rfl) ?_ _
   refine NoPanic.normal ?_
   have HEND := jq7 hL3
   clear hL3
   go_wp2
   go_ret
   exact ⟨rfl, ⟨⟨_, _, _, _, HVW.o.keep HEND.o.2⟩, HEND.o.2.weaken (fun _ _ h => h.elim)⟩⟩
 | true =>
  have e1 : tabX m (d.S.length : Int) = tabL m := by unfold tabX;rw [if_pos ht]
  have e2 : tabE m (d.S.length : Int) = 0 := by unfold tabE;rw [if_pos ht]
  rw [e1, e2] at HPU
  have hpt := tab_parts ht
  have HTL := jq7 (tabL_len m hpt.2.2.2.1)
  have hl := half_lo hS
  obtain ⟨gn, hgn⟩ : ∃ gn : Nat, m.gen = (gn : Int) := ⟨m.gen.toNat, by omega⟩
  obtain ⟨N, hN⟩ : ∃ N : Nat, half (d.S.length : Int) = N := ⟨(half (d.S.length : Int)).toNat, by omega⟩
  obtain ⟨g2, hg2⟩ : ∃ g2 : Nat, gn % 2 = g2 := ⟨_, rfl⟩
  have hmod : Int.tmod (gn : Int) 2 = (g2 : Int) := by rw [show (2 : Int) = ((2 : Nat) : Int) from rfl, ← Int.ofNat_tmod, hg2]
  have hg22 : g2 < 2 := by omega
  have HGM : Jq7 (m.gen % 2 = (g2 : Int)) := jq7 (by omega)
  have HQ : Jq7 (half (d.S.length : Int) + (g2 : Int) = (N : Int) + (g2 : Int)) := jq7 (by rw [hN])
  have hN1 : N ≤ 2038 := by omega
  have HT := jq7 ht
  have HP0 : Jq7 (X[0]? = some (.int .i64 (gn : Int))) := jq7 (by rw [← HXX.o, ← hgn];rfl)
  have HHF : Jq7 (∀ W, Calls Tryz.prog 40 #[.int .i64 (d.S.length : Int)] W fun e w' => e = .returned (.int .i64 (N : Int)) ∧ w' = W) := jq7 (fun W => by have := half_calls (d.S.length : Int) W (wf_nat (by omega));rwa [hN] at this)
  have HQ1 : Jq7 ((Lit.int .i64 (g2 : Int)).wf = true) := jq7 (wf_nat (by omega))
  have HQ2 : Jq7 ((Lit.int .i64 ((N : Int) + (g2 : Int))).wf = true) := jq7 (by rw [show (N : Int) + (g2 : Int) = ((N + g2 : Nat) : Int) by omega];exact wf_nat (by omega))
  have hix0 : ∀ W, (Instr.index 85 (.agg #[.int .i64 (g2 : Int), .int .i64 ((N : Int) + (g2 : Int))]) (.int .i64 0)).run Tryz.prog W = .ok (.int .i64 (g2 : Int)) W := fun W => ShaStep.index_arr (k := 0) W Tryz.underlying85 (e := 3) (by kernel_rfl) (by kernel_rfl) (by decide) rfl
  have hix1 : ∀ W, (Instr.index 85 (.agg #[.int .i64 (g2 : Int), .int .i64 ((N : Int) + (g2 : Int))]) (.int .i64 1)).run Tryz.prog W = .ok (.int .i64 ((N : Int) + (g2 : Int))) W := fun W => ShaStep.index_arr (k := 1) W Tryz.underlying85 (e := 3) (by kernel_rfl) (by kernel_rfl) (by decide) rfl
  have HW1 : Jq7 (∀ W, DAt W p d sa sc ca cc → Calls Tryz.prog 55 #[.pointer (some ⟨p, 0, none⟩), .int .i64 (g2 : Int), .agg ((tabL m).map B).toArray] W fun e w' => e = .returned (.int .i64 (writeE d g2)) ∧ Now W w' p (writeD d g2 (tabL m))) := jq7 (fun W h => DiskWrite.write_calls p g2 (tabL m) d sa sc ca cc W hok h HTL.o (by omega) HQ1.o)
  have HO1 := jq7 (writeD_ok hok HTL.o HQ1.o)
  have HC1 := jq7 (Nat.le_trans (writeD_C d g2 (tabL m)) (Nat.add_le_add_right hC 1))
  have HW2 : Jq7 (∀ W s n c k, DAt W p (writeD d g2 (tabL m)) s n c k → Calls Tryz.prog 55 #[.pointer (some ⟨p, 0, none⟩), .int .i64 ((N : Int) + (g2 : Int)), .agg ((tabL m).map B).toArray] W fun e w' => e = .returned (.int .i64 (writeE (writeD d g2 (tabL m)) ((N : Int) + (g2 : Int)))) ∧ Now W w' p (writeD (writeD d g2 (tabL m)) ((N : Int) + (g2 : Int)) (tabL m))) := jq7 (fun W s n c k h => DiskWrite.write_calls p _ (tabL m) _ s n c k W HO1.o h HTL.o (by have := HC1.o;omega) HQ2.o)
  have HO2 := jq7 (writeD_ok HO1.o HTL.o HQ2.o)
  have HFL : Jq7 (∀ W s n c k, DAt W p (writeD (writeD d g2 (tabL m)) ((N : Int) + (g2 : Int)) (tabL m)) s n c k → Calls Tryz.prog 18 #[.pointer (some ⟨p, 0, none⟩)] W fun e w' => e = .returned (.int .i64 (flushE (writeD (writeD d g2 (tabL m)) ((N : Int) + (g2 : Int)) (tabL m)))) ∧ Now W w' p (flushD (writeD (writeD d g2 (tabL m)) ((N : Int) + (g2 : Int)) (tabL m)))) := jq7 (fun W s n c k h => DiskFlush.flush_calls p _ s n c k W HO2.o h)
  have K1 := jq7 (@keepX_1 d m (writeE d g2) g2 ((N : Int) + g2) _ ht HGM.o HQ.o rfl rfl)
  have K2 := jq7 (@keepX_2 d m (writeE d g2) (writeE (writeD d g2 (tabL m)) ((N : Int) + (g2 : Int))) g2 ((N : Int) + g2) _ _ ht HGM.o HQ.o rfl rfl rfl rfl)
  have K22 := jq7 (@keepX_22 d m (writeE d g2) (writeE (writeD d g2 (tabL m)) ((N : Int) + (g2 : Int))) g2 ((N : Int) + g2) _ _ ht HGM.o HQ.o rfl rfl rfl rfl)
  have KF := jq7 (@keepX_f d m (writeE d g2) (writeE (writeD d g2 (tabL m)) ((N : Int) + (g2 : Int))) g2 ((N : Int) + g2) _ _ ht HGM.o HQ.o rfl rfl rfl rfl)
  have HIL := jq7 (info_l HTL.o)
  clear e1 e2 ht hpt hl hgn hN hg2 hok hS
  generalize hd1 : writeD d g2 (tabL m) = dk1 at *
  generalize hd2 : writeD dk1 ((N : Int) + (g2 : Int)) (tabL m) = dk2 at *
  generalize he1 : writeE d g2 = ee1 at *
  generalize he2 : writeE dk1 ((N : Int) + (g2 : Int)) = ee2 at *
  clear hd1 hd2 he1 he2
  generalize keepX d m = kx at *
  go_enter Tryz.func63, Tryz.ntmps63
  go_wp2
  refine wp_region_noPanic ?_
  refine wp_region_held_drew (S := (fun W : World => Bk W w.heap.size X 28 ∧ Fr0 w W)) (by kernel_rfl) (⟨HX.o, Fr.drew HF.o⟩) (fun hL0 => ?_)
  generalize (w.alloc (.cells X 28)).drew = wd at *
  refine tk (i := 0) (v := .agg X) rfl (yields_row (by kernel_rfl) 28 _ rfl (w.heap.size) rfl 28 X (0, 0) _ (fun W h => h.1) Tryz.underlying28 rfl HIN.o) hL0 ?_
  refine tk0 (i := 1) (v := .pointer (some ⟨p, 0, none⟩)) rfl hL0 ?_
  simp only [Act.put,zA,zB,zC,zD,zE,zF]
  refine tk0 (i := 2) (v := .pointer (some ⟨p, 0, none⟩)) rfl hL0 ?_
  refine tk0 (i := 3) (v := .pointer (some ⟨p, 0, none⟩)) rfl hL0 ?_
  simp only [Act.put,zA,zB,zC,zD,zE,zF]
  refine tk (i := 4) (v := .slice sa d.S.length sc) rfl (Or.inl ⟨by kernel_rfl, fun w hSw => by have hcl := (fun _ h => HC0.o _ h.2) w hSw;go_simp⟩) hL0 ?_
  refine tk (i := 5) (v := .int .i64 (d.S.length : Int)) rfl (Or.inl ⟨by kernel_rfl, fun w hSw => by go_simp⟩) hL0 ?_
  simp only [Act.put,zA,zB,zC,zD,zE,zF]
  change wpAnyH _ _ _ _ _ 7 #[true, true, true, true, true, true, false, false, false, false, false, false, false] _ _
  refine wpAnyH_ready (rs := [6, 10]) (by kernel_rfl) (by simp) ?_
  refine AllReadyH.cons rfl (fun K hK => ?_) (AllReadyH.cons rfl (fun K hK => ?_) (AllReadyH.nil))
  ·simp only [zA, zB, zC]
   refine (if_pos (by kernel_rfl)).mpr ?_
   go_wp2_with fail
   refine (HPU.o _ (hL0).2).mono ?_
   rintro e wx0 ⟨rfl, hfx0⟩
   dsimp only
   refine hK.out _ _ (⟨hfx0.keep (hL0).1 (fun h => h), (hL0).2.then0 hfx0⟩) (fun hL1 => ?_)
   clear hK K hL0
   refine tk0 (i := 7) (v := .tuple #[.agg ((tabL m).map B).toArray, .int .i64 0]) rfl hL1 ?_
   refine tk (i := 8) (v := .agg ((tabL m).map B).toArray) rfl (Or.inl ⟨by kernel_rfl, fun w hSw => by go_simp⟩) hL1 ?_
   simp only [Act.put,zA,zB,zC,zD,zE,zF]
   refine tk (i := 9) (v := .int .i64 0) rfl (Or.inl ⟨by kernel_rfl, fun w hSw => by go_simp⟩) hL1 ?_
   simp only [Act.put,zA,zB,zC,zD,zE,zF]
   change wpAnyH _ _ _ _ _ 3 #[true, true, true, true, true, true, true, true, true, true, false, false, false] _ _
   refine rd1 10 rfl fun K hK => ?_
   simp only [zA, zB, zC]
   have hk0 := hL1
   go_wp2_with fail
   refine hK.out _ _ (⟨Bk.alloc (hL1).1 _, Fr.alloc (hL1).2 _⟩) (fun hL2 => ?_)
   clear hK K hL1
   have HGB1 : Jq7 (Bk (wx0.alloc (.cells ZB 36)) wx0.heap.size ZB 36) := jq7 (Bk.new _ _)
   have HGE : Jq7 (w.heap.size + 1 ≤ wx0.heap.size) := jq7 (Bk.lt (hk0).1)
   generalize (wx0.alloc (.cells ZB 36)) = wy1 at *
   generalize wx0.heap.size = gb at *
   clear hk0
   change wpAnyH _ _ _ _ _ 2 #[true, true, true, true, true, true, true, true, true, true, true, false, false] _ _
   refine rd1 11 rfl fun K hK => ?_
   simp only [zA, zB, zC]
   have hge := HGE.o
   refine wp_store_row 36 _ _ rfl gb ((tabL m).map B).toArray rfl rfl 36 ZB HGB1.o (info_l HTL.o) (size_l HTL.o) (one_l _) ?_
   refine hK.out _ _ (⟨ArrKit.Bk.rowOther (hL2).1 _ (by omega), ArrKit.Fr.row (hL2).2 _ _ (.inl (by omega))⟩) (fun hL3 => ?_)
   clear hK K hL2
   have HGF : Jq7 (Bk (wy1.setRow gb ((tabL m).map B).toArray) gb ((tabL m).map B).toArray 36) := jq7 (ArrKit.Bk.row HGB1.o _)
   generalize (wy1.setRow gb ((tabL m).map B).toArray) = w3 at *
   refine tk0 (i := 12) (v := .int .i64 0) rfl hL3 ?_
   simp only [Act.put,zA,zB,zC,zD,zE,zF]
   change wpAnyH _ _ _ _ _ 0 #[true, true, true, true, true, true, true, true, true, true, true, true, true] _ _
   refine wpAnyH_done (by kernel_rfl) ?_ _
   refine NoPanic.normal ?_
   have HEND := jq7 hL3
   clear hL3
   go_wp2
   have HV3 : Jq7 (DAt w3 p d sa sc ca cc) := jq7 (HVW.o.keep HEND.o.2)
   have b0 : w3.cell? ⟨w.heap.size, 0, none⟩ = some (.int .i64 (gn : Int)) := (Bk.cell HEND.o.1 0).trans HP0.o
   have b1 : w3.cell? ⟨p, 0, none⟩ = some (.slice sa d.S.length sc) := Bk.cell HV3.o.blk 0
   have hgp : gb ≠ p := by have := HGE.o;omega
   go_quiet (first | (go_at_call 40;refine Calls.quiet_of_same ((HHF.o _).mono fun _ _ h => ⟨h.1, h.2⟩)))
   have HV4 : Jq7 (DAt (w3.drewN nq) p d sa sc ca cc) := jq7 (HV3.o.keep (Fr.drewN (Fr.refl _ _) nq))
   have HG4 : Jq7 (Bk (w3.drewN nq) gb ((tabL m).map B).toArray 36) := HGF
   have HF4 : Jq7 (Fr0 w (w3.drewN nq)) := jq7 (Fr.drewN HEND.o.2 nq)
   clear HV3 HGF HEND b0 b1
   generalize w3.drewN nq = w4 at *
   go_wp2
   refine wp_loop_rounds 3 ?_
   rw [rounds_succ]
   by_cases k10 : ee1 = 0
   ·subst k10
    go_wp2_with (first | ((with_reducible show wkq (.load 36 _) _);refine lr 36 gb ((tabL m).map B).toArray HG4.o HIL.o ?_) | (go_at_call 55;(with_reducible refine (HW1.o _ HV4.o).mono ?_);rintro e w5 ⟨rfl, ⟨s5, n5, c5, m5, hv5⟩, hf5⟩;have HV5 := jq7 hv5;have HG5 := jq7 (hf5.keep HG4.o hgp);have HF5 : Jq7 (Fr (fun i => i = p) w w5) := jq7 ((HF4.o.weaken (fun _ _ h => h.elim)).trans hf5);clear hv5 hf5))
    rw [rounds_succ]
    by_cases k20 : ee2 = 0
    ·subst k20
     have HK := jq7 (KF.o (by simp) (by simp) (by simp))
     go_wp2_with (first | ((with_reducible show wkq (.load 36 _) _);refine lr 36 gb ((tabL m).map B).toArray HG5.o HIL.o ?_) | (go_at_call 55;(with_reducible refine (HW2.o _ _ _ _ _ HV5.o).mono ?_);rintro e w6 ⟨rfl, ⟨s6, n6, c6, m6, hv6⟩, hf6⟩;have HV6 := jq7 hv6;have HF6 : Jq7 (Fr (fun i => i = p) w w6) := jq7 (HF5.o.trans hf6);clear hv6 hf6))
     rw [rounds_succ]
     go_wp2_with (first | (go_at_call 18;(with_reducible refine (HFL.o _ _ _ _ _ HV6.o).mono ?_);rintro e w7 ⟨rfl, hn7⟩;have HN7 := jq7 hn7;clear hn7))
     go_ret
     exact ⟨by rw [HK.o];rfl, by rw [HK.o];exact ⟨HN7.o.at_, HF6.o.trans HN7.o.fr⟩⟩
    by_cases k22 : ee2 = 2
    ·subst k22
     have HK := jq7 (KF.o (by simp) (by simp) (by simp))
     go_wp2_with (first | ((with_reducible show wkq (.load 36 _) _);refine lr 36 gb ((tabL m).map B).toArray HG5.o HIL.o ?_) | (go_at_call 55;(with_reducible refine (HW2.o _ _ _ _ _ HV5.o).mono ?_);rintro e w6 ⟨rfl, ⟨s6, n6, c6, m6, hv6⟩, hf6⟩;have HV6 := jq7 hv6;have HF6 : Jq7 (Fr (fun i => i = p) w w6) := jq7 (HF5.o.trans hf6);clear hv6 hf6))
     rw [rounds_succ]
     go_wp2_with (first | (go_at_call 18;(with_reducible refine (HFL.o _ _ _ _ _ HV6.o).mono ?_);rintro e w7 ⟨rfl, hn7⟩;have HN7 := jq7 hn7;clear hn7))
     go_ret
     exact ⟨by rw [HK.o];rfl, by rw [HK.o];exact ⟨HN7.o.at_, HF6.o.trans HN7.o.fr⟩⟩
    have HK := jq7 (K2.o (by simp) k20 k22)
    have b20 : (ee2 == 0) = false := by simpa using k20
    have b22 : (ee2 == 2) = false := by simpa using k22
    go_wp2_with (first | ((with_reducible show wkq (.load 36 _) _);refine lr 36 gb ((tabL m).map B).toArray HG5.o HIL.o ?_) | (go_at_call 55;(with_reducible refine (HW2.o _ _ _ _ _ HV5.o).mono ?_);rintro e w6 ⟨rfl, ⟨s6, n6, c6, m6, hv6⟩, hf6⟩;have HV6 := jq7 hv6;have HF6 : Jq7 (Fr (fun i => i = p) w w6) := jq7 (HF5.o.trans hf6);clear hv6 hf6))
    go_ret
    exact ⟨by rw [HK.o];rfl, by rw [HK.o];exact ⟨⟨_, _, _, _, HV6.o⟩, HF6.o⟩⟩
   by_cases k12 : ee1 = 2
   ·subst k12
    go_wp2_with (first | ((with_reducible show wkq (.load 36 _) _);refine lr 36 gb ((tabL m).map B).toArray HG4.o HIL.o ?_) | (go_at_call 55;(with_reducible refine (HW1.o _ HV4.o).mono ?_);rintro e w5 ⟨rfl, ⟨s5, n5, c5, m5, hv5⟩, hf5⟩;have HV5 := jq7 hv5;have HG5 := jq7 (hf5.keep HG4.o hgp);have HF5 : Jq7 (Fr (fun i => i = p) w w5) := jq7 ((HF4.o.weaken (fun _ _ h => h.elim)).trans hf5);clear hv5 hf5))
    rw [rounds_succ]
    by_cases k20 : ee2 = 0
    ·subst k20
     have HK := jq7 (KF.o (by simp) (by simp) (by simp))
     go_wp2_with (first | ((with_reducible show wkq (.load 36 _) _);refine lr 36 gb ((tabL m).map B).toArray HG5.o HIL.o ?_) | (go_at_call 55;(with_reducible refine (HW2.o _ _ _ _ _ HV5.o).mono ?_);rintro e w6 ⟨rfl, ⟨s6, n6, c6, m6, hv6⟩, hf6⟩;have HV6 := jq7 hv6;have HF6 : Jq7 (Fr (fun i => i = p) w w6) := jq7 (HF5.o.trans hf6);clear hv6 hf6))
     rw [rounds_succ]
     go_wp2_with (first | (go_at_call 18;(with_reducible refine (HFL.o _ _ _ _ _ HV6.o).mono ?_);rintro e w7 ⟨rfl, hn7⟩;have HN7 := jq7 hn7;clear hn7))
     go_ret
     exact ⟨by rw [HK.o];rfl, by rw [HK.o];exact ⟨HN7.o.at_, HF6.o.trans HN7.o.fr⟩⟩
    by_cases k22 : ee2 = 2
    ·subst k22
     have HK := jq7 (K22.o (by simp) (by simp) (by simp))
     go_wp2_with (first | ((with_reducible show wkq (.load 36 _) _);refine lr 36 gb ((tabL m).map B).toArray HG5.o HIL.o ?_) | (go_at_call 55;(with_reducible refine (HW2.o _ _ _ _ _ HV5.o).mono ?_);rintro e w6 ⟨rfl, ⟨s6, n6, c6, m6, hv6⟩, hf6⟩;have HV6 := jq7 hv6;have HF6 : Jq7 (Fr (fun i => i = p) w w6) := jq7 (HF5.o.trans hf6);clear hv6 hf6))
     rw [rounds_succ]
     go_wp2
     go_ret
     exact ⟨by rw [HK.o];rfl, by rw [HK.o];exact ⟨⟨_, _, _, _, HV6.o⟩, HF6.o⟩⟩
    have HK := jq7 (K2.o (by simp) k20 k22)
    have b20 : (ee2 == 0) = false := by simpa using k20
    have b22 : (ee2 == 2) = false := by simpa using k22
    go_wp2_with (first | ((with_reducible show wkq (.load 36 _) _);refine lr 36 gb ((tabL m).map B).toArray HG5.o HIL.o ?_) | (go_at_call 55;(with_reducible refine (HW2.o _ _ _ _ _ HV5.o).mono ?_);rintro e w6 ⟨rfl, ⟨s6, n6, c6, m6, hv6⟩, hf6⟩;have HV6 := jq7 hv6;have HF6 : Jq7 (Fr (fun i => i = p) w w6) := jq7 (HF5.o.trans hf6);clear hv6 hf6))
    go_ret
    exact ⟨by rw [HK.o];rfl, by rw [HK.o];exact ⟨⟨_, _, _, _, HV6.o⟩, HF6.o⟩⟩
   have HK := jq7 (K1.o k10 k12)
   have b10 : (ee1 == 0) = false := by simpa using k10
   have b12 : (ee1 == 2) = false := by simpa using k12
   go_wp2_with (first | ((with_reducible show wkq (.load 36 _) _);refine lr 36 gb ((tabL m).map B).toArray HG4.o HIL.o ?_) | (go_at_call 55;(with_reducible refine (HW1.o _ HV4.o).mono ?_);rintro e w5 ⟨rfl, ⟨s5, n5, c5, m5, hv5⟩, hf5⟩;have HV5 := jq7 hv5;have HG5 := jq7 (hf5.keep HG4.o hgp);have HF5 : Jq7 (Fr (fun i => i = p) w w5) := jq7 ((HF4.o.weaken (fun _ _ h => h.elim)).trans hf5);clear hv5 hf5))
   go_ret
   exact ⟨by rw [HK.o];rfl, by rw [HK.o];exact ⟨⟨_, _, _, _, HV5.o⟩, HF5.o⟩⟩
  ·simp only [zA, zB, zC]
   refine (if_pos (by kernel_rfl)).mpr ?_
   have hk0 := hL0
   go_wp2_with fail
   refine hK.out _ _ (⟨Bk.alloc (hL0).1 _, Fr.alloc (hL0).2 _⟩) (fun hL1 => ?_)
   clear hK K hL0
   have HGB0 : Jq7 (Bk (wd.alloc (.cells ZB 36)) wd.heap.size ZB 36) := jq7 (Bk.new _ _)
   have HGE : Jq7 (w.heap.size + 1 ≤ wd.heap.size) := jq7 (Bk.lt (hk0).1)
   generalize (wd.alloc (.cells ZB 36)) = wy0 at *
   generalize wd.heap.size = gb at *
   clear hk0
   change wpAnyH _ _ _ _ _ 6 #[true, true, true, true, true, true, false, false, false, false, true, false, false] _ _
   refine rd1 6 rfl fun K hK => ?_
   simp only [zA, zB, zC]
   go_wp2_with fail
   refine (HPU.o _ (hL1).2).mono ?_
   rintro e wx1 ⟨rfl, hfx1⟩
   dsimp only
   refine hK.out _ _ (⟨hfx1.keep (hL1).1 (fun h => h), (hL1).2.then0 hfx1⟩) (fun hL2 => ?_)
   clear hK K hL1
   have HGB1 := kq0 hfx1 HGB0
   refine tk0 (i := 7) (v := .tuple #[.agg ((tabL m).map B).toArray, .int .i64 0]) rfl hL2 ?_
   refine tk (i := 8) (v := .agg ((tabL m).map B).toArray) rfl (Or.inl ⟨by kernel_rfl, fun w hSw => by go_simp⟩) hL2 ?_
   simp only [Act.put,zA,zB,zC,zD,zE,zF]
   refine tk (i := 9) (v := .int .i64 0) rfl (Or.inl ⟨by kernel_rfl, fun w hSw => by go_simp⟩) hL2 ?_
   simp only [Act.put,zA,zB,zC,zD,zE,zF]
   change wpAnyH _ _ _ _ _ 2 #[true, true, true, true, true, true, true, true, true, true, true, false, false] _ _
   refine rd1 11 rfl fun K hK => ?_
   simp only [zA, zB, zC]
   have hge := HGE.o
   refine wp_store_row 36 _ _ rfl gb ((tabL m).map B).toArray rfl rfl 36 ZB HGB1.o (info_l HTL.o) (size_l HTL.o) (one_l _) ?_
   refine hK.out _ _ (⟨ArrKit.Bk.rowOther (hL2).1 _ (by omega), ArrKit.Fr.row (hL2).2 _ _ (.inl (by omega))⟩) (fun hL3 => ?_)
   clear hK K hL2
   have HGF : Jq7 (Bk (wx1.setRow gb ((tabL m).map B).toArray) gb ((tabL m).map B).toArray 36) := jq7 (ArrKit.Bk.row HGB1.o _)
   generalize (wx1.setRow gb ((tabL m).map B).toArray) = w3 at *
   refine tk0 (i := 12) (v := .int .i64 0) rfl hL3 ?_
   simp only [Act.put,zA,zB,zC,zD,zE,zF]
   change wpAnyH _ _ _ _ _ 0 #[true, true, true, true, true, true, true, true, true, true, true, true, true] _ _
   refine wpAnyH_done (by kernel_rfl) ?_ _
   refine NoPanic.normal ?_
   have HEND := jq7 hL3
   clear hL3
   go_wp2
   have HV3 : Jq7 (DAt w3 p d sa sc ca cc) := jq7 (HVW.o.keep HEND.o.2)
   have b0 : w3.cell? ⟨w.heap.size, 0, none⟩ = some (.int .i64 (gn : Int)) := (Bk.cell HEND.o.1 0).trans HP0.o
   have b1 : w3.cell? ⟨p, 0, none⟩ = some (.slice sa d.S.length sc) := Bk.cell HV3.o.blk 0
   have hgp : gb ≠ p := by have := HGE.o;omega
   go_quiet (first | (go_at_call 40;refine Calls.quiet_of_same ((HHF.o _).mono fun _ _ h => ⟨h.1, h.2⟩)))
   have HV4 : Jq7 (DAt (w3.drewN nq) p d sa sc ca cc) := jq7 (HV3.o.keep (Fr.drewN (Fr.refl _ _) nq))
   have HG4 : Jq7 (Bk (w3.drewN nq) gb ((tabL m).map B).toArray 36) := HGF
   have HF4 : Jq7 (Fr0 w (w3.drewN nq)) := jq7 (Fr.drewN HEND.o.2 nq)
   clear HV3 HGF HEND b0 b1
   generalize w3.drewN nq = w4 at *
   go_wp2
   refine wp_loop_rounds 3 ?_
   rw [rounds_succ]
   by_cases k10 : ee1 = 0
   ·subst k10
    go_wp2_with (first | ((with_reducible show wkq (.load 36 _) _);refine lr 36 gb ((tabL m).map B).toArray HG4.o HIL.o ?_) | (go_at_call 55;(with_reducible refine (HW1.o _ HV4.o).mono ?_);rintro e w5 ⟨rfl, ⟨s5, n5, c5, m5, hv5⟩, hf5⟩;have HV5 := jq7 hv5;have HG5 := jq7 (hf5.keep HG4.o hgp);have HF5 : Jq7 (Fr (fun i => i = p) w w5) := jq7 ((HF4.o.weaken (fun _ _ h => h.elim)).trans hf5);clear hv5 hf5))
    rw [rounds_succ]
    by_cases k20 : ee2 = 0
    ·subst k20
     have HK := jq7 (KF.o (by simp) (by simp) (by simp))
     go_wp2_with (first | ((with_reducible show wkq (.load 36 _) _);refine lr 36 gb ((tabL m).map B).toArray HG5.o HIL.o ?_) | (go_at_call 55;(with_reducible refine (HW2.o _ _ _ _ _ HV5.o).mono ?_);rintro e w6 ⟨rfl, ⟨s6, n6, c6, m6, hv6⟩, hf6⟩;have HV6 := jq7 hv6;have HF6 : Jq7 (Fr (fun i => i = p) w w6) := jq7 (HF5.o.trans hf6);clear hv6 hf6))
     rw [rounds_succ]
     go_wp2_with (first | (go_at_call 18;(with_reducible refine (HFL.o _ _ _ _ _ HV6.o).mono ?_);rintro e w7 ⟨rfl, hn7⟩;have HN7 := jq7 hn7;clear hn7))
     go_ret
     exact ⟨by rw [HK.o];rfl, by rw [HK.o];exact ⟨HN7.o.at_, HF6.o.trans HN7.o.fr⟩⟩
    by_cases k22 : ee2 = 2
    ·subst k22
     have HK := jq7 (KF.o (by simp) (by simp) (by simp))
     go_wp2_with (first | ((with_reducible show wkq (.load 36 _) _);refine lr 36 gb ((tabL m).map B).toArray HG5.o HIL.o ?_) | (go_at_call 55;(with_reducible refine (HW2.o _ _ _ _ _ HV5.o).mono ?_);rintro e w6 ⟨rfl, ⟨s6, n6, c6, m6, hv6⟩, hf6⟩;have HV6 := jq7 hv6;have HF6 : Jq7 (Fr (fun i => i = p) w w6) := jq7 (HF5.o.trans hf6);clear hv6 hf6))
     rw [rounds_succ]
     go_wp2_with (first | (go_at_call 18;(with_reducible refine (HFL.o _ _ _ _ _ HV6.o).mono ?_);rintro e w7 ⟨rfl, hn7⟩;have HN7 := jq7 hn7;clear hn7))
     go_ret
     exact ⟨by rw [HK.o];rfl, by rw [HK.o];exact ⟨HN7.o.at_, HF6.o.trans HN7.o.fr⟩⟩
    have HK := jq7 (K2.o (by simp) k20 k22)
    have b20 : (ee2 == 0) = false := by simpa using k20
    have b22 : (ee2 == 2) = false := by simpa using k22
    go_wp2_with (first | ((with_reducible show wkq (.load 36 _) _);refine lr 36 gb ((tabL m).map B).toArray HG5.o HIL.o ?_) | (go_at_call 55;(with_reducible refine (HW2.o _ _ _ _ _ HV5.o).mono ?_);rintro e w6 ⟨rfl, ⟨s6, n6, c6, m6, hv6⟩, hf6⟩;have HV6 := jq7 hv6;have HF6 : Jq7 (Fr (fun i => i = p) w w6) := jq7 (HF5.o.trans hf6);clear hv6 hf6))
    go_ret
    exact ⟨by rw [HK.o];rfl, by rw [HK.o];exact ⟨⟨_, _, _, _, HV6.o⟩, HF6.o⟩⟩
   by_cases k12 : ee1 = 2
   ·subst k12
    go_wp2_with (first | ((with_reducible show wkq (.load 36 _) _);refine lr 36 gb ((tabL m).map B).toArray HG4.o HIL.o ?_) | (go_at_call 55;(with_reducible refine (HW1.o _ HV4.o).mono ?_);rintro e w5 ⟨rfl, ⟨s5, n5, c5, m5, hv5⟩, hf5⟩;have HV5 := jq7 hv5;have HG5 := jq7 (hf5.keep HG4.o hgp);have HF5 : Jq7 (Fr (fun i => i = p) w w5) := jq7 ((HF4.o.weaken (fun _ _ h => h.elim)).trans hf5);clear hv5 hf5))
    rw [rounds_succ]
    by_cases k20 : ee2 = 0
    ·subst k20
     have HK := jq7 (KF.o (by simp) (by simp) (by simp))
     go_wp2_with (first | ((with_reducible show wkq (.load 36 _) _);refine lr 36 gb ((tabL m).map B).toArray HG5.o HIL.o ?_) | (go_at_call 55;(with_reducible refine (HW2.o _ _ _ _ _ HV5.o).mono ?_);rintro e w6 ⟨rfl, ⟨s6, n6, c6, m6, hv6⟩, hf6⟩;have HV6 := jq7 hv6;have HF6 : Jq7 (Fr (fun i => i = p) w w6) := jq7 (HF5.o.trans hf6);clear hv6 hf6))
     rw [rounds_succ]
     go_wp2_with (first | (go_at_call 18;(with_reducible refine (HFL.o _ _ _ _ _ HV6.o).mono ?_);rintro e w7 ⟨rfl, hn7⟩;have HN7 := jq7 hn7;clear hn7))
     go_ret
     exact ⟨by rw [HK.o];rfl, by rw [HK.o];exact ⟨HN7.o.at_, HF6.o.trans HN7.o.fr⟩⟩
    by_cases k22 : ee2 = 2
    ·subst k22
     have HK := jq7 (K22.o (by simp) (by simp) (by simp))
     go_wp2_with (first | ((with_reducible show wkq (.load 36 _) _);refine lr 36 gb ((tabL m).map B).toArray HG5.o HIL.o ?_) | (go_at_call 55;(with_reducible refine (HW2.o _ _ _ _ _ HV5.o).mono ?_);rintro e w6 ⟨rfl, ⟨s6, n6, c6, m6, hv6⟩, hf6⟩;have HV6 := jq7 hv6;have HF6 : Jq7 (Fr (fun i => i = p) w w6) := jq7 (HF5.o.trans hf6);clear hv6 hf6))
     rw [rounds_succ]
     go_wp2
     go_ret
     exact ⟨by rw [HK.o];rfl, by rw [HK.o];exact ⟨⟨_, _, _, _, HV6.o⟩, HF6.o⟩⟩
    have HK := jq7 (K2.o (by simp) k20 k22)
    have b20 : (ee2 == 0) = false := by simpa using k20
    have b22 : (ee2 == 2) = false := by simpa using k22
    go_wp2_with (first | ((with_reducible show wkq (.load 36 _) _);refine lr 36 gb ((tabL m).map B).toArray HG5.o HIL.o ?_) | (go_at_call 55;(with_reducible refine (HW2.o _ _ _ _ _ HV5.o).mono ?_);rintro e w6 ⟨rfl, ⟨s6, n6, c6, m6, hv6⟩, hf6⟩;have HV6 := jq7 hv6;have HF6 : Jq7 (Fr (fun i => i = p) w w6) := jq7 (HF5.o.trans hf6);clear hv6 hf6))
    go_ret
    exact ⟨by rw [HK.o];rfl, by rw [HK.o];exact ⟨⟨_, _, _, _, HV6.o⟩, HF6.o⟩⟩
   have HK := jq7 (K1.o k10 k12)
   have b10 : (ee1 == 0) = false := by simpa using k10
   have b12 : (ee1 == 2) = false := by simpa using k12
   go_wp2_with (first | ((with_reducible show wkq (.load 36 _) _);refine lr 36 gb ((tabL m).map B).toArray HG4.o HIL.o ?_) | (go_at_call 55;(with_reducible refine (HW1.o _ HV4.o).mono ?_);rintro e w5 ⟨rfl, ⟨s5, n5, c5, m5, hv5⟩, hf5⟩;have HV5 := jq7 hv5;have HG5 := jq7 (hf5.keep HG4.o hgp);have HF5 : Jq7 (Fr (fun i => i = p) w w5) := jq7 ((HF4.o.weaken (fun _ _ h => h.elim)).trans hf5);clear hv5 hf5))
   go_ret
   exact ⟨by rw [HK.o];rfl, by rw [HK.o];exact ⟨⟨_, _, _, _, HV5.o⟩, HF5.o⟩⟩

end Go.Proofs.YtmkmpfnadcmcoaaGreatDoor.RmKeep
