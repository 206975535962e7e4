/- The theorems that the claim uses, text behind text (part 15). -/
import Derived.Test.YtmkmpfnadcmcoaaDoorXan
set_option maxRecDepth 100000
set_option linter.unusedVariables false
set_option linter.unusedSimpArgs false
namespace Go.Proofs.YtmkmpfnadcmcoaaDoor.RmKeep
open Go Go.RowKit Go.Proofs.YtmkmpfnadcmcoaaDoor.K Go.Proofs.YtmkmpfnadcmcoaaDoor.EqKit Go.Proofs.YtmkmpfnadcmcoaaDoor.ArrKit Go.Proofs.YtmkmpfnadcmcoaaDoor.HeldKit Go.Proofs.YtmkmpfnadcmcoaaDoor.GKit Go.Proofs.YtmkmpfnadcmcoaaDoor.GRow Go.Proofs.YtmkmpfnadcmcoaaDoor.DiskKit Go.Proofs.YtmkmpfnadcmcoaaDoor.RmKit Go.Proofs.YtmkmpfnadcmcoaaDoor.MapKit Go.Proofs.YtmkmpfnadcmcoaaDoor.RmRight Go.Proofs.YtmkmpfnadcmcoaaDoor.RmTab Go.Proofs.YtmkmpfnadcmcoaaDoor.RmPut Go.Proofs.YtmkmpfnadcmcoaaDoor.RmAsk Go.Proofs.YtmkmpfnadcmcoaaDoor.RmSame Go.Proofs.YtmkmpfnadcmcoaaDoor.DiskRRead Go.Proofs.YtmkmpfnadcmcoaaDoor.RmRead Go.Proofs.YtmkmpfnadcmcoaaDoor.RmReads Go.Proofs.YtmkmpfnadcmcoaaDoor.DiskAct Go.Proofs.YtmkmpfnadcmcoaaDoor.RmSpare
def keepX (d : Dk) (m : Rm) : Int × Dk :=
  if tabB m (d.S.length : Int) = true then
    if writeE d (m.gen % 2) ≠ 0 ∧ writeE d (m.gen % 2) ≠ 2 then (writeE d (m.gen % 2), writeD d (m.gen % 2) (tabL m)) else
    if writeE (writeD d (m.gen % 2) (tabL m)) (half (d.S.length : Int) + m.gen % 2) ≠ 0 ∧ writeE (writeD d (m.gen % 2) (tabL m)) (half (d.S.length : Int) + m.gen % 2) ≠ 2 then (writeE (writeD d (m.gen % 2) (tabL m)) (half (d.S.length : Int) + m.gen % 2), writeD (writeD d (m.gen % 2) (tabL m)) (half (d.S.length : Int) + m.gen % 2) (tabL m)) else
    if writeE d (m.gen % 2) = 2 ∧ writeE (writeD d (m.gen % 2) (tabL m)) (half (d.S.length : Int) + m.gen % 2) = 2 then (2, writeD (writeD d (m.gen % 2) (tabL m)) (half (d.S.length : Int) + m.gen % 2) (tabL m)) else
    (flushE (writeD (writeD d (m.gen % 2) (tabL m)) (half (d.S.length : Int) + m.gen % 2) (tabL m)), flushD (writeD (writeD d (m.gen % 2) (tabL m)) (half (d.S.length : Int) + m.gen % 2) (tabL m)))
  else (1, d)
theorem keepX_no {d : Dk} {m : Rm} (h : tabB m (d.S.length : Int) = false) : keepX d m = (1, d) := by unfold keepX; rw [if_neg (by simp [h])]
section
variable {d : Dk} {m : Rm} {e1 e2 g2 q : Int} {d1 d2 : Dk} (h : tabB m (d.S.length : Int) = true) (hg : m.gen % 2 = g2) (hq : half (d.S.length : Int) + g2 = q) (he1 : writeE d g2 = e1) (hd1 : writeD d g2 (tabL m) = d1)
include h hg hq he1 hd1
theorem keepX_1 (k0 : e1 ≠ 0) (k2 : e1 ≠ 2) : keepX d m = (e1, d1) := by
  subst hg hq he1 hd1
  unfold keepX
  rw [if_pos h, if_pos ⟨k0, k2⟩]
variable (he2 : writeE d1 q = e2) (hd2 : writeD d1 q (tabL m) = d2) (k1 : e1 = 0 ∨ e1 = 2)
include he2 hd2 k1
theorem keepX_2 (k0 : e2 ≠ 0) (k2 : e2 ≠ 2) : keepX d m = (e2, d2) := by
  subst hg hq hd1 he2 hd2
  unfold keepX
  rw [if_pos h, he1, if_neg (by omega), if_pos ⟨k0, k2⟩]
theorem keepX_22 (k0 : e1 = 2) (k2 : e2 = 2) : keepX d m = (2, d2) := by
  have hk := k1
  subst hg hq hd1 hd2
  unfold keepX
  rw [if_pos h, he1, he2, if_neg (by omega), if_neg (by omega), if_pos ⟨k0, k2⟩]
theorem keepX_f (k2 : e2 = 0 ∨ e2 = 2) (k3 : ¬ (e1 = 2 ∧ e2 = 2)) : keepX d m = (flushE d2, flushD d2) := by
  subst hg hq hd1 hd2
  unfold keepX
  rw [if_pos h, he1, he2, if_neg (by omega), if_neg (by omega), if_neg k3]
end
set_option maxHeartbeats 2000000 in
set_option maxRecDepth 100000 in
theorem keep_calls (p : Nat) (d : Dk) (sa : Option Addr) (sc : Nat) (ca : Option Addr) (cc : Nat) (m : Rm) (a : Option Addr) (c : Nat) (w : World) (hok : d.ok) (hv : DAt w p d sa sc ca cc) (hm : m.ok) (hr : RV w m a c) (hsh : Sh w) (hC : d.C.length ≤ 2000) (hS : half (d.S.length : Int) ≠ 0) : Calls Tryd.prog 47 #[.pointer (some ⟨p, 0, none⟩), .agg (rval m a c)] w fun e w' => e = .returned (.int .i64 (keepX d m).1) ∧ Now w w' p (keepX d m).2 := by
  have HX : Hid (Bk (w.alloc (.cells (rval m a c) 32)) w.heap.size (rval m a c) 32) := Lib.hid (Bk.new w _)
  have HF : Hid (Fr0 w (w.alloc (.cells (rval m a c) 32))) := Lib.hid (Fr.alloc (Fr.refl _ _) _)
  have HV : Hid (DAt (w.alloc (.cells (rval m a c) 32)) p d sa sc ca cc) := Lib.hid (hv.keep (Fr.alloc (Fr.refl _ _) _))
  have hpw : p < w.heap.size := Bk.lt hv.blk
  have c0 : w.cell? ⟨p, 0, none⟩ = some (.slice sa d.S.length sc) := Bk.cell hv.blk 0
  have c0a : (w.alloc (.cells (rval m a c) 32)).cell? ⟨p, 0, none⟩ = some (.slice sa d.S.length sc) := Bk.cell HV.out.blk 0
  have HIN : Hid ((Tryd.prog.info? 32).map (·.size) = some (rval m a c).size) := Lib.hid (info_r _ _)
  have hzb := zero_bl
  have HPU : Hid (∀ W, Fr0 w W → Calls Tryd.prog 35 #[.agg (rval m a c), .int .i64 (d.S.length : Int)] W fun e w' => e = .returned (.tuple #[.agg ((tabX m (d.S.length : Int)).map B).toArray, .int .i64 (tabE m (d.S.length : Int))]) ∧ Fr0 W w') := Lib.hid (fun W f => RmPut.put_calls m a c _ W hm (hr.keep f) (wf_nat (Nat.le_trans hv.v.sn hv.v.sm)) (hsh.keep0 f))
  clear hm hr hsh
  have HVW := Lib.hid hv
  have HC0 : Hid (∀ W, Fr0 w W → W.cell? ⟨p, 0, none⟩ = some (.slice sa d.S.length sc)) := Lib.hid (fun W f => Bk.cell (hv.keep f).blk 0)
  clear hv
  generalize hX : rval m a c = X at *
  have HXX := Lib.hid hX
  clear hX
  cases ht : tabB m (d.S.length : Int) with
  | false =>
    have e1 : tabX m (d.S.length : Int) = Z128 := by unfold tabX; rw [if_neg (by simp [ht])]
    have e2 : tabE m (d.S.length : Int) = 1 := by unfold tabE; rw [if_neg (by simp [ht])]
    rw [e1, e2] at HPU
    rw [keepX_no ht]
    clear e1 e2 ht
    go_enter Tryd.func47, Tryd.ntmps47
    go_wp2
    refine wp_region_noPanic ?_
    refine wp_region_held_drew (S := (fun W : World => Bk W w.heap.size X 32 ∧ Fr0 w W)) (by kernel_rfl) (⟨HX.out, Fr.drew HF.out⟩) (fun hHeld0 => ?_)
    generalize (w.alloc (.cells X 32)).drew = wd at *
    refine tk (i := 0) (v := .agg X) rfl (yields_row (by kernel_rfl) 32 _ rfl (w.heap.size) rfl 32 X (0, 0) _ (fun W h => h.1) Tryd.underlying32 rfl HIN.out) hHeld0 ?_
    simp only [Act.put, zA, zB, zC, zD, zE, zF]
    refine tk0 (i := 1) (v := .pointer (some ⟨p, 0, none⟩)) rfl hHeld0 ?_
    simp only [Act.put, zA, zB, zC, zD, zE, zF]
    refine tk0 (i := 2) (v := .pointer (some ⟨p, 0, none⟩)) rfl hHeld0 ?_
    simp only [Act.put, zA, zB, zC, zD, zE, zF]
    refine tk0 (i := 3) (v := .pointer (some ⟨p, 0, none⟩)) rfl hHeld0 ?_
    simp only [Act.put, zA, zB, zC, zD, zE, zF]
    refine tk (i := 4) (v := .slice sa d.S.length sc) rfl (Or.inl ⟨by kernel_rfl, fun w hSw => by have hcl := (fun _ h => HC0.out _ h.2) w hSw; go_simp⟩) hHeld0 ?_
    simp only [Act.put, zA, zB, zC, zD, zE, zF]
    refine tk (i := 5) (v := .int .i64 (d.S.length : Int)) rfl (Or.inl ⟨by kernel_rfl, fun w hSw => by go_simp⟩) hHeld0 ?_
    simp only [Act.put, zA, zB, zC, zD, zE, zF]
    change wpAnyH _ _ _ _ _ 7 #[true, true, true, true, true, true, false, false, false, false, false, false, false] _ _
    refine wpAnyH_ready (rs := [6, 10]) (by kernel_rfl) (by simp) ?_
    refine AllReadyH.cons rfl (fun K hK => ?_) (AllReadyH.cons rfl (fun K hK => ?_) (AllReadyH.nil))
    · simp only [zA, zB, zC]
      refine (if_pos (by kernel_rfl)).mpr ?_
      go_wp2_with fail
      refine (HPU.out _ (hHeld0).2).mono ?_
      rintro e wx0 ⟨rfl, hfx0⟩
      dsimp only
      refine hK.out _ _ (⟨hfx0.keep (hHeld0).1 (fun h => h), (hHeld0).2.then0 hfx0⟩) (fun hHeld1 => ?_)
      clear hK K hHeld0
      refine tk0 (i := 7) (v := .tuple #[.agg (Z128.map B).toArray, .int .i64 1]) rfl hHeld1 ?_
      simp only [Act.put, zA, zB, zC, zD, zE, zF]
      refine tk (i := 8) (v := .agg (Z128.map B).toArray) rfl (Or.inl ⟨by kernel_rfl, fun w hSw => by go_simp⟩) hHeld1 ?_
      simp only [Act.put, zA, zB, zC, zD, zE, zF]
      refine tk (i := 9) (v := .int .i64 1) rfl (Or.inl ⟨by kernel_rfl, fun w hSw => by go_simp⟩) hHeld1 ?_
      simp only [Act.put, zA, zB, zC, zD, zE, zF]
      change wpAnyH _ _ _ _ _ 3 #[true, true, true, true, true, true, true, true, true, true, false, false, false] _ _
      refine wpAnyH_ready (rs := [10]) (by kernel_rfl) (by simp) ?_
      refine AllReadyH.cons rfl (fun K hK => ?_) AllReadyH.nil
      simp only [zA, zB, zC]
      refine (if_pos (by kernel_rfl)).mpr ?_
      have hk0 := hHeld1
      go_wp2_with fail
      refine hK.out _ _ (⟨Bk.alloc (hHeld1).1 _, Fr.alloc (hHeld1).2 _⟩) (fun hHeld2 => ?_)
      clear hK K hHeld1
      have HGB1 : Hid (Bk (wx0.alloc (.cells ZB 22)) wx0.heap.size ZB 22) := Lib.hid (Bk.new _ _)
      have HGE : Hid (w.heap.size + 1 ≤ wx0.heap.size) := Lib.hid (Bk.lt (hk0).1)
      generalize (wx0.alloc (.cells ZB 22)) = wy1 at *
      generalize wx0.heap.size = gb at *
      clear hk0
      change wpAnyH _ _ _ _ _ 2 #[true, true, true, true, true, true, true, true, true, true, true, false, false] _ _
      refine wpAnyH_ready (rs := [11]) (by kernel_rfl) (by simp) ?_
      refine AllReadyH.cons rfl (fun K hK => ?_) AllReadyH.nil
      simp only [zA, zB, zC]
      refine (if_pos (by kernel_rfl)).mpr ?_
      have hge := HGE.out
      refine wp_store_row 22 _ _ rfl gb (Z128.map B).toArray rfl rfl 22 ZB HGB1.out (info_l Z128_len) (size_l Z128_len) (one_l _) ?_
      refine hK.out _ _ (⟨ArrKit.Bk.rowOther (hHeld2).1 _ (by omega), ArrKit.Fr.row (hHeld2).2 _ _ (.inl (by omega))⟩) (fun hHeld3 => ?_)
      clear hK K hHeld2
      have HGF : Hid (Bk (wy1.setRow gb (Z128.map B).toArray) gb (Z128.map B).toArray 22) := Lib.hid (ArrKit.Bk.row HGB1.out _)
      generalize (wy1.setRow gb (Z128.map B).toArray) = w3 at *
      refine tk0 (i := 12) (v := .int .i64 1) rfl hHeld3 ?_
      simp only [Act.put, zA, zB, zC, zD, zE, zF]
      change wpAnyH _ _ _ _ _ 0 #[true, true, true, true, true, true, true, true, true, true, true, true, true] _ _
      refine wpAnyH_done (by kernel_rfl) ?_ _
      refine NoPanic.normal ?_
      have HEND := Lib.hid hHeld3
      clear hHeld3
      go_wp2
      go_ret
      exact ⟨rfl, ⟨⟨_, _, _, _, HVW.out.keep HEND.out.2⟩, HEND.out.2.weaken (fun _ _ h => h.elim)⟩⟩
    · simp only [zA, zB, zC]
      refine (if_pos (by kernel_rfl)).mpr ?_
      have hk0 := hHeld0
      go_wp2_with fail
      refine hK.out _ _ (⟨Bk.alloc (hHeld0).1 _, Fr.alloc (hHeld0).2 _⟩) (fun hHeld1 => ?_)
      clear hK K hHeld0
      have HGB0 : Hid (Bk (wd.alloc (.cells ZB 22)) wd.heap.size ZB 22) := Lib.hid (Bk.new _ _)
      have HGE : Hid (w.heap.size + 1 ≤ wd.heap.size) := Lib.hid (Bk.lt (hk0).1)
      generalize (wd.alloc (.cells ZB 22)) = wy0 at *
      generalize wd.heap.size = gb at *
      clear hk0
      change wpAnyH _ _ _ _ _ 6 #[true, true, true, true, true, true, false, false, false, false, true, false, false] _ _
      refine wpAnyH_ready (rs := [6]) (by kernel_rfl) (by simp) ?_
      refine AllReadyH.cons rfl (fun K hK => ?_) AllReadyH.nil
      simp only [zA, zB, zC]
      refine (if_pos (by kernel_rfl)).mpr ?_
      go_wp2_with fail
      refine (HPU.out _ (hHeld1).2).mono ?_
      rintro e wx1 ⟨rfl, hfx1⟩
      dsimp only
      refine hK.out _ _ (⟨hfx1.keep (hHeld1).1 (fun h => h), (hHeld1).2.then0 hfx1⟩) (fun hHeld2 => ?_)
      clear hK K hHeld1
      have HGB1 := Lib.hid (hfx1.keep HGB0.out (fun h => h))
      refine tk0 (i := 7) (v := .tuple #[.agg (Z128.map B).toArray, .int .i64 1]) rfl hHeld2 ?_
      simp only [Act.put, zA, zB, zC, zD, zE, zF]
      refine tk (i := 8) (v := .agg (Z128.map B).toArray) rfl (Or.inl ⟨by kernel_rfl, fun w hSw => by go_simp⟩) hHeld2 ?_
      simp only [Act.put, zA, zB, zC, zD, zE, zF]
      refine tk (i := 9) (v := .int .i64 1) rfl (Or.inl ⟨by kernel_rfl, fun w hSw => by go_simp⟩) hHeld2 ?_
      simp only [Act.put, zA, zB, zC, zD, zE, zF]
      change wpAnyH _ _ _ _ _ 2 #[true, true, true, true, true, true, true, true, true, true, true, false, false] _ _
      refine wpAnyH_ready (rs := [11]) (by kernel_rfl) (by simp) ?_
      refine AllReadyH.cons rfl (fun K hK => ?_) AllReadyH.nil
      simp only [zA, zB, zC]
      refine (if_pos (by kernel_rfl)).mpr ?_
      have hge := HGE.out
      refine wp_store_row 22 _ _ rfl gb (Z128.map B).toArray rfl rfl 22 ZB HGB1.out (info_l Z128_len) (size_l Z128_len) (one_l _) ?_
      refine hK.out _ _ (⟨ArrKit.Bk.rowOther (hHeld2).1 _ (by omega), ArrKit.Fr.row (hHeld2).2 _ _ (.inl (by omega))⟩) (fun hHeld3 => ?_)
      clear hK K hHeld2
      have HGF : Hid (Bk (wx1.setRow gb (Z128.map B).toArray) gb (Z128.map B).toArray 22) := Lib.hid (ArrKit.Bk.row HGB1.out _)
      generalize (wx1.setRow gb (Z128.map B).toArray) = w3 at *
      refine tk0 (i := 12) (v := .int .i64 1) rfl hHeld3 ?_
      simp only [Act.put, zA, zB, zC, zD, zE, zF]
      change wpAnyH _ _ _ _ _ 0 #[true, true, true, true, true, true, true, true, true, true, true, true, true] _ _
      refine wpAnyH_done (by kernel_rfl) ?_ _
      refine NoPanic.normal ?_
      have HEND := Lib.hid hHeld3
      clear hHeld3
      go_wp2
      go_ret
      exact ⟨rfl, ⟨⟨_, _, _, _, HVW.out.keep HEND.out.2⟩, HEND.out.2.weaken (fun _ _ h => h.elim)⟩⟩
  | true =>
    have e1 : tabX m (d.S.length : Int) = tabL m := by unfold tabX; rw [if_pos ht]
    have e2 : tabE m (d.S.length : Int) = 0 := by unfold tabE; rw [if_pos ht]
    rw [e1, e2] at HPU
    have hpt := tab_parts ht
    have HTL := Lib.hid (tabL_len m hpt.2.2.2.1)
    have hl := half_lo hS
    obtain ⟨gn, hgn⟩ : ∃ gn : Nat, m.gen = (gn : Int) := ⟨m.gen.toNat, by omega⟩
    obtain ⟨N, hN⟩ : ∃ N : Nat, half (d.S.length : Int) = N := ⟨(half (d.S.length : Int)).toNat, by omega⟩
    obtain ⟨g2, hg2⟩ : ∃ g2 : Nat, gn % 2 = g2 := ⟨_, rfl⟩
    have hmod : Int.tmod (gn : Int) 2 = (g2 : Int) := by rw [show (2 : Int) = ((2 : Nat) : Int) from rfl, ← Int.ofNat_tmod, hg2]
    have hg22 : g2 < 2 := by omega
    have HGM : Hid (m.gen % 2 = (g2 : Int)) := Lib.hid (by omega)
    have HQ : Hid (half (d.S.length : Int) + (g2 : Int) = (N : Int) + (g2 : Int)) := Lib.hid (by rw [hN])
    have hN1 : N ≤ 2038 := by omega
    have HT := Lib.hid ht
    have HP0 : Hid (X[0]? = some (.int .i64 (gn : Int))) := Lib.hid (by rw [← HXX.out, ← hgn]; rfl)
    have HHF : Hid (∀ W, Calls Tryd.prog 42 #[.int .i64 (d.S.length : Int)] W fun e w' => e = .returned (.int .i64 (N : Int)) ∧ w' = W) := Lib.hid (fun W => by have := half_calls (d.S.length : Int) W (wf_nat (by omega)); rwa [hN] at this)
    have HQ1 : Hid ((Lit.int .i64 (g2 : Int)).wf = true) := Lib.hid (wf_nat (by omega))
    have HQ2 : Hid ((Lit.int .i64 ((N : Int) + (g2 : Int))).wf = true) := Lib.hid (by rw [show (N : Int) + (g2 : Int) = ((N + g2 : Nat) : Int) by omega]; exact wf_nat (by omega))
    have hix0 : ∀ W, (Instr.index 89 (.agg #[.int .i64 (g2 : Int), .int .i64 ((N : Int) + (g2 : Int))]) (.int .i64 0)).run Tryd.prog W = .ok (.int .i64 (g2 : Int)) W := fun W => ShaStep.index_arr (k := 0) W Tryd.underlying89 (e := 3) (by kernel_rfl) (by kernel_rfl) (by decide) rfl
    have hix1 : ∀ W, (Instr.index 89 (.agg #[.int .i64 (g2 : Int), .int .i64 ((N : Int) + (g2 : Int))]) (.int .i64 1)).run Tryd.prog W = .ok (.int .i64 ((N : Int) + (g2 : Int))) W := fun W => ShaStep.index_arr (k := 1) W Tryd.underlying89 (e := 3) (by kernel_rfl) (by kernel_rfl) (by decide) rfl
    have HW1 : Hid (∀ W, DAt W p d sa sc ca cc → Calls Tryd.prog 36 #[.pointer (some ⟨p, 0, none⟩), .int .i64 (g2 : Int), .agg ((tabL m).map B).toArray] W fun e w' => e = .returned (.int .i64 (writeE d g2)) ∧ Now W w' p (writeD d g2 (tabL m))) := Lib.hid (fun W h => DiskWrite.write_calls p g2 (tabL m) d sa sc ca cc W hok h HTL.out (by omega) HQ1.out)
    have HO1 := Lib.hid (writeD_ok hok HTL.out HQ1.out)
    have HC1 := Lib.hid (Nat.le_trans (writeD_C d g2 (tabL m)) (Nat.add_le_add_right hC 1))
    have HW2 : Hid (∀ W s n c k, DAt W p (writeD d g2 (tabL m)) s n c k → Calls Tryd.prog 36 #[.pointer (some ⟨p, 0, none⟩), .int .i64 ((N : Int) + (g2 : Int)), .agg ((tabL m).map B).toArray] W fun e w' => e = .returned (.int .i64 (writeE (writeD d g2 (tabL m)) ((N : Int) + (g2 : Int)))) ∧ Now W w' p (writeD (writeD d g2 (tabL m)) ((N : Int) + (g2 : Int)) (tabL m))) := Lib.hid (fun W s n c k h => DiskWrite.write_calls p _ (tabL m) _ s n c k W HO1.out h HTL.out (by have := HC1.out; omega) HQ2.out)
    have HO2 := Lib.hid (writeD_ok HO1.out HTL.out HQ2.out)
    have HFL : Hid (∀ W s n c k, DAt W p (writeD (writeD d g2 (tabL m)) ((N : Int) + (g2 : Int)) (tabL m)) s n c k → Calls Tryd.prog 8 #[.pointer (some ⟨p, 0, none⟩)] W fun e w' => e = .returned (.int .i64 (flushE (writeD (writeD d g2 (tabL m)) ((N : Int) + (g2 : Int)) (tabL m)))) ∧ Now W w' p (flushD (writeD (writeD d g2 (tabL m)) ((N : Int) + (g2 : Int)) (tabL m)))) := Lib.hid (fun W s n c k h => DiskFlush.flush_calls p _ s n c k W HO2.out h)
    have K1 := Lib.hid (@keepX_1 d m (writeE d g2) g2 ((N : Int) + g2) _ ht HGM.out HQ.out rfl rfl)
    have K2 := Lib.hid (@keepX_2 d m (writeE d g2) (writeE (writeD d g2 (tabL m)) ((N : Int) + (g2 : Int))) g2 ((N : Int) + g2) _ _ ht HGM.out HQ.out rfl rfl rfl rfl)
    have K22 := Lib.hid (@keepX_22 d m (writeE d g2) (writeE (writeD d g2 (tabL m)) ((N : Int) + (g2 : Int))) g2 ((N : Int) + g2) _ _ ht HGM.out HQ.out rfl rfl rfl rfl)
    have KF := Lib.hid (@keepX_f d m (writeE d g2) (writeE (writeD d g2 (tabL m)) ((N : Int) + (g2 : Int))) g2 ((N : Int) + g2) _ _ ht HGM.out HQ.out rfl rfl rfl rfl)
    have HIL := Lib.hid (info_l HTL.out)
    clear e1 e2 ht hpt hl hgn hN hg2 hok hS
    generalize hd1 : writeD d g2 (tabL m) = dk1 at *
    generalize hd2 : writeD dk1 ((N : Int) + (g2 : Int)) (tabL m) = dk2 at *
    generalize he1 : writeE d g2 = ee1 at *
    generalize he2 : writeE dk1 ((N : Int) + (g2 : Int)) = ee2 at *
    clear hd1 hd2 he1 he2
    generalize keepX d m = kx at *
    go_enter Tryd.func47, Tryd.ntmps47
    go_wp2
    refine wp_region_noPanic ?_
    refine wp_region_held_drew (S := (fun W : World => Bk W w.heap.size X 32 ∧ Fr0 w W)) (by kernel_rfl) (⟨HX.out, Fr.drew HF.out⟩) (fun hHeld0 => ?_)
    generalize (w.alloc (.cells X 32)).drew = wd at *
    refine tk (i := 0) (v := .agg X) rfl (yields_row (by kernel_rfl) 32 _ rfl (w.heap.size) rfl 32 X (0, 0) _ (fun W h => h.1) Tryd.underlying32 rfl HIN.out) hHeld0 ?_
    simp only [Act.put, zA, zB, zC, zD, zE, zF]
    refine tk0 (i := 1) (v := .pointer (some ⟨p, 0, none⟩)) rfl hHeld0 ?_
    simp only [Act.put, zA, zB, zC, zD, zE, zF]
    refine tk0 (i := 2) (v := .pointer (some ⟨p, 0, none⟩)) rfl hHeld0 ?_
    simp only [Act.put, zA, zB, zC, zD, zE, zF]
    refine tk0 (i := 3) (v := .pointer (some ⟨p, 0, none⟩)) rfl hHeld0 ?_
    simp only [Act.put, zA, zB, zC, zD, zE, zF]
    refine tk (i := 4) (v := .slice sa d.S.length sc) rfl (Or.inl ⟨by kernel_rfl, fun w hSw => by have hcl := (fun _ h => HC0.out _ h.2) w hSw; go_simp⟩) hHeld0 ?_
    simp only [Act.put, zA, zB, zC, zD, zE, zF]
    refine tk (i := 5) (v := .int .i64 (d.S.length : Int)) rfl (Or.inl ⟨by kernel_rfl, fun w hSw => by go_simp⟩) hHeld0 ?_
    simp only [Act.put, zA, zB, zC, zD, zE, zF]
    change wpAnyH _ _ _ _ _ 7 #[true, true, true, true, true, true, false, false, false, false, false, false, false] _ _
    refine wpAnyH_ready (rs := [6, 10]) (by kernel_rfl) (by simp) ?_
    refine AllReadyH.cons rfl (fun K hK => ?_) (AllReadyH.cons rfl (fun K hK => ?_) (AllReadyH.nil))
    · simp only [zA, zB, zC]
      refine (if_pos (by kernel_rfl)).mpr ?_
      go_wp2_with fail
      refine (HPU.out _ (hHeld0).2).mono ?_
      rintro e wx0 ⟨rfl, hfx0⟩
      dsimp only
      refine hK.out _ _ (⟨hfx0.keep (hHeld0).1 (fun h => h), (hHeld0).2.then0 hfx0⟩) (fun hHeld1 => ?_)
      clear hK K hHeld0
      refine tk0 (i := 7) (v := .tuple #[.agg ((tabL m).map B).toArray, .int .i64 0]) rfl hHeld1 ?_
      simp only [Act.put, zA, zB, zC, zD, zE, zF]
      refine tk (i := 8) (v := .agg ((tabL m).map B).toArray) rfl (Or.inl ⟨by kernel_rfl, fun w hSw => by go_simp⟩) hHeld1 ?_
      simp only [Act.put, zA, zB, zC, zD, zE, zF]
      refine tk (i := 9) (v := .int .i64 0) rfl (Or.inl ⟨by kernel_rfl, fun w hSw => by go_simp⟩) hHeld1 ?_
      simp only [Act.put, zA, zB, zC, zD, zE, zF]
      change wpAnyH _ _ _ _ _ 3 #[true, true, true, true, true, true, true, true, true, true, false, false, false] _ _
      refine wpAnyH_ready (rs := [10]) (by kernel_rfl) (by simp) ?_
      refine AllReadyH.cons rfl (fun K hK => ?_) AllReadyH.nil
      simp only [zA, zB, zC]
      refine (if_pos (by kernel_rfl)).mpr ?_
      have hk0 := hHeld1
      go_wp2_with fail
      refine hK.out _ _ (⟨Bk.alloc (hHeld1).1 _, Fr.alloc (hHeld1).2 _⟩) (fun hHeld2 => ?_)
      clear hK K hHeld1
      have HGB1 : Hid (Bk (wx0.alloc (.cells ZB 22)) wx0.heap.size ZB 22) := Lib.hid (Bk.new _ _)
      have HGE : Hid (w.heap.size + 1 ≤ wx0.heap.size) := Lib.hid (Bk.lt (hk0).1)
      generalize (wx0.alloc (.cells ZB 22)) = wy1 at *
      generalize wx0.heap.size = gb at *
      clear hk0
      change wpAnyH _ _ _ _ _ 2 #[true, true, true, true, true, true, true, true, true, true, true, false, false] _ _
      refine wpAnyH_ready (rs := [11]) (by kernel_rfl) (by simp) ?_
      refine AllReadyH.cons rfl (fun K hK => ?_) AllReadyH.nil
      simp only [zA, zB, zC]
      refine (if_pos (by kernel_rfl)).mpr ?_
      have hge := HGE.out
      refine wp_store_row 22 _ _ rfl gb ((tabL m).map B).toArray rfl rfl 22 ZB HGB1.out (info_l HTL.out) (size_l HTL.out) (one_l _) ?_
      refine hK.out _ _ (⟨ArrKit.Bk.rowOther (hHeld2).1 _ (by omega), ArrKit.Fr.row (hHeld2).2 _ _ (.inl (by omega))⟩) (fun hHeld3 => ?_)
      clear hK K hHeld2
      have HGF : Hid (Bk (wy1.setRow gb ((tabL m).map B).toArray) gb ((tabL m).map B).toArray 22) := Lib.hid (ArrKit.Bk.row HGB1.out _)
      generalize (wy1.setRow gb ((tabL m).map B).toArray) = w3 at *
      refine tk0 (i := 12) (v := .int .i64 0) rfl hHeld3 ?_
      simp only [Act.put, zA, zB, zC, zD, zE, zF]
      change wpAnyH _ _ _ _ _ 0 #[true, true, true, true, true, true, true, true, true, true, true, true, true] _ _
      refine wpAnyH_done (by kernel_rfl) ?_ _
      refine NoPanic.normal ?_
      have HEND := Lib.hid hHeld3
      clear hHeld3
      go_wp2
      have HV3 : Hid (DAt w3 p d sa sc ca cc) := Lib.hid (HVW.out.keep HEND.out.2)
      have b0 : w3.cell? ⟨w.heap.size, 0, none⟩ = some (.int .i64 (gn : Int)) := (Bk.cell HEND.out.1 0).trans HP0.out
      have b1 : w3.cell? ⟨p, 0, none⟩ = some (.slice sa d.S.length sc) := Bk.cell HV3.out.blk 0
      have hgp : gb ≠ p := by have := HGE.out; omega
      go_quiet (first | (go_at_call 42; refine Calls.quiet_of_same ((HHF.out _).mono fun _ _ h => ⟨h.1, h.2⟩)))
      have HV4 : Hid (DAt (w3.drewN nq) p d sa sc ca cc) := Lib.hid (HV3.out.keep (Fr.drewN (Fr.refl _ _) nq))
      have HG4 : Hid (Bk (w3.drewN nq) gb ((tabL m).map B).toArray 22) := HGF
      have HF4 : Hid (Fr0 w (w3.drewN nq)) := Lib.hid (Fr.drewN HEND.out.2 nq)
      clear HV3 HGF HEND b0 b1
      generalize w3.drewN nq = w4 at *
      go_wp2
      refine wp_loop_rounds 3 ?_
      rw [rounds_succ]
      by_cases k10 : ee1 = 0
      · subst k10
        go_wp2_with (first | ((with_reducible show wpList _ _ _ ({ dst := _, op := Op.load 22 _, type := _, pos := _, after := _, guard := _ } :: _) _ _); refine wpList_load_row_g (by rfl) 22 _ rfl gb rfl 22 ((tabL m).map B).toArray (0, 0) _ HG4.out Tryd.underlying22 rfl HIL.out ?_) | (go_at_call 36; (with_reducible refine (HW1.out _ HV4.out).mono ?_); rintro e w5 ⟨rfl, ⟨s5, n5, c5, m5, hv5⟩, hf5⟩; have HV5 := Lib.hid hv5; have HG5 := Lib.hid (hf5.keep HG4.out hgp); have HF5 : Hid (Fr (fun i => i = p) w w5) := Lib.hid ((HF4.out.weaken (fun _ _ h => h.elim)).trans hf5); clear hv5 hf5))
        rw [rounds_succ]
        by_cases k20 : ee2 = 0
        · subst k20
          have HK := Lib.hid (KF.out (by simp) (by simp) (by simp))
          go_wp2_with (first | ((with_reducible show wpList _ _ _ ({ dst := _, op := Op.load 22 _, type := _, pos := _, after := _, guard := _ } :: _) _ _); refine wpList_load_row_g (by rfl) 22 _ rfl gb rfl 22 ((tabL m).map B).toArray (0, 0) _ HG5.out Tryd.underlying22 rfl HIL.out ?_) | (go_at_call 36; (with_reducible refine (HW2.out _ _ _ _ _ HV5.out).mono ?_); rintro e w6 ⟨rfl, ⟨s6, n6, c6, m6, hv6⟩, hf6⟩; have HV6 := Lib.hid hv6; have HF6 : Hid (Fr (fun i => i = p) w w6) := Lib.hid (HF5.out.trans hf6); clear hv6 hf6))
          rw [rounds_succ]
          go_wp2_with (first | (go_at_call 8; (with_reducible refine (HFL.out _ _ _ _ _ HV6.out).mono ?_); rintro e w7 ⟨rfl, hn7⟩; have HN7 := Lib.hid hn7; clear hn7))
          go_ret
          exact ⟨by rw [HK.out]; rfl, by rw [HK.out]; exact ⟨HN7.out.at_, HF6.out.trans HN7.out.fr⟩⟩
        by_cases k22 : ee2 = 2
        · subst k22
          have HK := Lib.hid (KF.out (by simp) (by simp) (by simp))
          go_wp2_with (first | ((with_reducible show wpList _ _ _ ({ dst := _, op := Op.load 22 _, type := _, pos := _, after := _, guard := _ } :: _) _ _); refine wpList_load_row_g (by rfl) 22 _ rfl gb rfl 22 ((tabL m).map B).toArray (0, 0) _ HG5.out Tryd.underlying22 rfl HIL.out ?_) | (go_at_call 36; (with_reducible refine (HW2.out _ _ _ _ _ HV5.out).mono ?_); rintro e w6 ⟨rfl, ⟨s6, n6, c6, m6, hv6⟩, hf6⟩; have HV6 := Lib.hid hv6; have HF6 : Hid (Fr (fun i => i = p) w w6) := Lib.hid (HF5.out.trans hf6); clear hv6 hf6))
          rw [rounds_succ]
          go_wp2_with (first | (go_at_call 8; (with_reducible refine (HFL.out _ _ _ _ _ HV6.out).mono ?_); rintro e w7 ⟨rfl, hn7⟩; have HN7 := Lib.hid hn7; clear hn7))
          go_ret
          exact ⟨by rw [HK.out]; rfl, by rw [HK.out]; exact ⟨HN7.out.at_, HF6.out.trans HN7.out.fr⟩⟩
        have HK := Lib.hid (K2.out (by simp) k20 k22)
        have b20 : (ee2 == 0) = false := by simpa using k20
        have b22 : (ee2 == 2) = false := by simpa using k22
        go_wp2_with (first | ((with_reducible show wpList _ _ _ ({ dst := _, op := Op.load 22 _, type := _, pos := _, after := _, guard := _ } :: _) _ _); refine wpList_load_row_g (by rfl) 22 _ rfl gb rfl 22 ((tabL m).map B).toArray (0, 0) _ HG5.out Tryd.underlying22 rfl HIL.out ?_) | (go_at_call 36; (with_reducible refine (HW2.out _ _ _ _ _ HV5.out).mono ?_); rintro e w6 ⟨rfl, ⟨s6, n6, c6, m6, hv6⟩, hf6⟩; have HV6 := Lib.hid hv6; have HF6 : Hid (Fr (fun i => i = p) w w6) := Lib.hid (HF5.out.trans hf6); clear hv6 hf6))
        go_ret
        exact ⟨by rw [HK.out]; rfl, by rw [HK.out]; exact ⟨⟨_, _, _, _, HV6.out⟩, HF6.out⟩⟩
      by_cases k12 : ee1 = 2
      · subst k12
        go_wp2_with (first | ((with_reducible show wpList _ _ _ ({ dst := _, op := Op.load 22 _, type := _, pos := _, after := _, guard := _ } :: _) _ _); refine wpList_load_row_g (by rfl) 22 _ rfl gb rfl 22 ((tabL m).map B).toArray (0, 0) _ HG4.out Tryd.underlying22 rfl HIL.out ?_) | (go_at_call 36; (with_reducible refine (HW1.out _ HV4.out).mono ?_); rintro e w5 ⟨rfl, ⟨s5, n5, c5, m5, hv5⟩, hf5⟩; have HV5 := Lib.hid hv5; have HG5 := Lib.hid (hf5.keep HG4.out hgp); have HF5 : Hid (Fr (fun i => i = p) w w5) := Lib.hid ((HF4.out.weaken (fun _ _ h => h.elim)).trans hf5); clear hv5 hf5))
        rw [rounds_succ]
        by_cases k20 : ee2 = 0
        · subst k20
          have HK := Lib.hid (KF.out (by simp) (by simp) (by simp))
          go_wp2_with (first | ((with_reducible show wpList _ _ _ ({ dst := _, op := Op.load 22 _, type := _, pos := _, after := _, guard := _ } :: _) _ _); refine wpList_load_row_g (by rfl) 22 _ rfl gb rfl 22 ((tabL m).map B).toArray (0, 0) _ HG5.out Tryd.underlying22 rfl HIL.out ?_) | (go_at_call 36; (with_reducible refine (HW2.out _ _ _ _ _ HV5.out).mono ?_); rintro e w6 ⟨rfl, ⟨s6, n6, c6, m6, hv6⟩, hf6⟩; have HV6 := Lib.hid hv6; have HF6 : Hid (Fr (fun i => i = p) w w6) := Lib.hid (HF5.out.trans hf6); clear hv6 hf6))
          rw [rounds_succ]
          go_wp2_with (first | (go_at_call 8; (with_reducible refine (HFL.out _ _ _ _ _ HV6.out).mono ?_); rintro e w7 ⟨rfl, hn7⟩; have HN7 := Lib.hid hn7; clear hn7))
          go_ret
          exact ⟨by rw [HK.out]; rfl, by rw [HK.out]; exact ⟨HN7.out.at_, HF6.out.trans HN7.out.fr⟩⟩
        by_cases k22 : ee2 = 2
        · subst k22
          have HK := Lib.hid (K22.out (by simp) (by simp) (by simp))
          go_wp2_with (first | ((with_reducible show wpList _ _ _ ({ dst := _, op := Op.load 22 _, type := _, pos := _, after := _, guard := _ } :: _) _ _); refine wpList_load_row_g (by rfl) 22 _ rfl gb rfl 22 ((tabL m).map B).toArray (0, 0) _ HG5.out Tryd.underlying22 rfl HIL.out ?_) | (go_at_call 36; (with_reducible refine (HW2.out _ _ _ _ _ HV5.out).mono ?_); rintro e w6 ⟨rfl, ⟨s6, n6, c6, m6, hv6⟩, hf6⟩; have HV6 := Lib.hid hv6; have HF6 : Hid (Fr (fun i => i = p) w w6) := Lib.hid (HF5.out.trans hf6); clear hv6 hf6))
          rw [rounds_succ]
          go_wp2
          go_ret
          exact ⟨by rw [HK.out]; rfl, by rw [HK.out]; exact ⟨⟨_, _, _, _, HV6.out⟩, HF6.out⟩⟩
        have HK := Lib.hid (K2.out (by simp) k20 k22)
        have b20 : (ee2 == 0) = false := by simpa using k20
        have b22 : (ee2 == 2) = false := by simpa using k22
        go_wp2_with (first | ((with_reducible show wpList _ _ _ ({ dst := _, op := Op.load 22 _, type := _, pos := _, after := _, guard := _ } :: _) _ _); refine wpList_load_row_g (by rfl) 22 _ rfl gb rfl 22 ((tabL m).map B).toArray (0, 0) _ HG5.out Tryd.underlying22 rfl HIL.out ?_) | (go_at_call 36; (with_reducible refine (HW2.out _ _ _ _ _ HV5.out).mono ?_); rintro e w6 ⟨rfl, ⟨s6, n6, c6, m6, hv6⟩, hf6⟩; have HV6 := Lib.hid hv6; have HF6 : Hid (Fr (fun i => i = p) w w6) := Lib.hid (HF5.out.trans hf6); clear hv6 hf6))
        go_ret
        exact ⟨by rw [HK.out]; rfl, by rw [HK.out]; exact ⟨⟨_, _, _, _, HV6.out⟩, HF6.out⟩⟩
      have HK := Lib.hid (K1.out k10 k12)
      have b10 : (ee1 == 0) = false := by simpa using k10
      have b12 : (ee1 == 2) = false := by simpa using k12
      go_wp2_with (first | ((with_reducible show wpList _ _ _ ({ dst := _, op := Op.load 22 _, type := _, pos := _, after := _, guard := _ } :: _) _ _); refine wpList_load_row_g (by rfl) 22 _ rfl gb rfl 22 ((tabL m).map B).toArray (0, 0) _ HG4.out Tryd.underlying22 rfl HIL.out ?_) | (go_at_call 36; (with_reducible refine (HW1.out _ HV4.out).mono ?_); rintro e w5 ⟨rfl, ⟨s5, n5, c5, m5, hv5⟩, hf5⟩; have HV5 := Lib.hid hv5; have HG5 := Lib.hid (hf5.keep HG4.out hgp); have HF5 : Hid (Fr (fun i => i = p) w w5) := Lib.hid ((HF4.out.weaken (fun _ _ h => h.elim)).trans hf5); clear hv5 hf5))
      go_ret
      exact ⟨by rw [HK.out]; rfl, by rw [HK.out]; exact ⟨⟨_, _, _, _, HV5.out⟩, HF5.out⟩⟩
    · simp only [zA, zB, zC]
      refine (if_pos (by kernel_rfl)).mpr ?_
      have hk0 := hHeld0
      go_wp2_with fail
      refine hK.out _ _ (⟨Bk.alloc (hHeld0).1 _, Fr.alloc (hHeld0).2 _⟩) (fun hHeld1 => ?_)
      clear hK K hHeld0
      have HGB0 : Hid (Bk (wd.alloc (.cells ZB 22)) wd.heap.size ZB 22) := Lib.hid (Bk.new _ _)
      have HGE : Hid (w.heap.size + 1 ≤ wd.heap.size) := Lib.hid (Bk.lt (hk0).1)
      generalize (wd.alloc (.cells ZB 22)) = wy0 at *
      generalize wd.heap.size = gb at *
      clear hk0
      change wpAnyH _ _ _ _ _ 6 #[true, true, true, true, true, true, false, false, false, false, true, false, false] _ _
      refine wpAnyH_ready (rs := [6]) (by kernel_rfl) (by simp) ?_
      refine AllReadyH.cons rfl (fun K hK => ?_) AllReadyH.nil
      simp only [zA, zB, zC]
      refine (if_pos (by kernel_rfl)).mpr ?_
      go_wp2_with fail
      refine (HPU.out _ (hHeld1).2).mono ?_
      rintro e wx1 ⟨rfl, hfx1⟩
      dsimp only
      refine hK.out _ _ (⟨hfx1.keep (hHeld1).1 (fun h => h), (hHeld1).2.then0 hfx1⟩) (fun hHeld2 => ?_)
      clear hK K hHeld1
      have HGB1 := Lib.hid (hfx1.keep HGB0.out (fun h => h))
      refine tk0 (i := 7) (v := .tuple #[.agg ((tabL m).map B).toArray, .int .i64 0]) rfl hHeld2 ?_
      simp only [Act.put, zA, zB, zC, zD, zE, zF]
      refine tk (i := 8) (v := .agg ((tabL m).map B).toArray) rfl (Or.inl ⟨by kernel_rfl, fun w hSw => by go_simp⟩) hHeld2 ?_
      simp only [Act.put, zA, zB, zC, zD, zE, zF]
      refine tk (i := 9) (v := .int .i64 0) rfl (Or.inl ⟨by kernel_rfl, fun w hSw => by go_simp⟩) hHeld2 ?_
      simp only [Act.put, zA, zB, zC, zD, zE, zF]
      change wpAnyH _ _ _ _ _ 2 #[true, true, true, true, true, true, true, true, true, true, true, false, false] _ _
      refine wpAnyH_ready (rs := [11]) (by kernel_rfl) (by simp) ?_
      refine AllReadyH.cons rfl (fun K hK => ?_) AllReadyH.nil
      simp only [zA, zB, zC]
      refine (if_pos (by kernel_rfl)).mpr ?_
      have hge := HGE.out
      refine wp_store_row 22 _ _ rfl gb ((tabL m).map B).toArray rfl rfl 22 ZB HGB1.out (info_l HTL.out) (size_l HTL.out) (one_l _) ?_
      refine hK.out _ _ (⟨ArrKit.Bk.rowOther (hHeld2).1 _ (by omega), ArrKit.Fr.row (hHeld2).2 _ _ (.inl (by omega))⟩) (fun hHeld3 => ?_)
      clear hK K hHeld2
      have HGF : Hid (Bk (wx1.setRow gb ((tabL m).map B).toArray) gb ((tabL m).map B).toArray 22) := Lib.hid (ArrKit.Bk.row HGB1.out _)
      generalize (wx1.setRow gb ((tabL m).map B).toArray) = w3 at *
      refine tk0 (i := 12) (v := .int .i64 0) rfl hHeld3 ?_
      simp only [Act.put, zA, zB, zC, zD, zE, zF]
      change wpAnyH _ _ _ _ _ 0 #[true, true, true, true, true, true, true, true, true, true, true, true, true] _ _
      refine wpAnyH_done (by kernel_rfl) ?_ _
      refine NoPanic.normal ?_
      have HEND := Lib.hid hHeld3
      clear hHeld3
      go_wp2
      have HV3 : Hid (DAt w3 p d sa sc ca cc) := Lib.hid (HVW.out.keep HEND.out.2)
      have b0 : w3.cell? ⟨w.heap.size, 0, none⟩ = some (.int .i64 (gn : Int)) := (Bk.cell HEND.out.1 0).trans HP0.out
      have b1 : w3.cell? ⟨p, 0, none⟩ = some (.slice sa d.S.length sc) := Bk.cell HV3.out.blk 0
      have hgp : gb ≠ p := by have := HGE.out; omega
      go_quiet (first | (go_at_call 42; refine Calls.quiet_of_same ((HHF.out _).mono fun _ _ h => ⟨h.1, h.2⟩)))
      have HV4 : Hid (DAt (w3.drewN nq) p d sa sc ca cc) := Lib.hid (HV3.out.keep (Fr.drewN (Fr.refl _ _) nq))
      have HG4 : Hid (Bk (w3.drewN nq) gb ((tabL m).map B).toArray 22) := HGF
      have HF4 : Hid (Fr0 w (w3.drewN nq)) := Lib.hid (Fr.drewN HEND.out.2 nq)
      clear HV3 HGF HEND b0 b1
      generalize w3.drewN nq = w4 at *
      go_wp2
      refine wp_loop_rounds 3 ?_
      rw [rounds_succ]
      by_cases k10 : ee1 = 0
      · subst k10
        go_wp2_with (first | ((with_reducible show wpList _ _ _ ({ dst := _, op := Op.load 22 _, type := _, pos := _, after := _, guard := _ } :: _) _ _); refine wpList_load_row_g (by rfl) 22 _ rfl gb rfl 22 ((tabL m).map B).toArray (0, 0) _ HG4.out Tryd.underlying22 rfl HIL.out ?_) | (go_at_call 36; (with_reducible refine (HW1.out _ HV4.out).mono ?_); rintro e w5 ⟨rfl, ⟨s5, n5, c5, m5, hv5⟩, hf5⟩; have HV5 := Lib.hid hv5; have HG5 := Lib.hid (hf5.keep HG4.out hgp); have HF5 : Hid (Fr (fun i => i = p) w w5) := Lib.hid ((HF4.out.weaken (fun _ _ h => h.elim)).trans hf5); clear hv5 hf5))
        rw [rounds_succ]
        by_cases k20 : ee2 = 0
        · subst k20
          have HK := Lib.hid (KF.out (by simp) (by simp) (by simp))
          go_wp2_with (first | ((with_reducible show wpList _ _ _ ({ dst := _, op := Op.load 22 _, type := _, pos := _, after := _, guard := _ } :: _) _ _); refine wpList_load_row_g (by rfl) 22 _ rfl gb rfl 22 ((tabL m).map B).toArray (0, 0) _ HG5.out Tryd.underlying22 rfl HIL.out ?_) | (go_at_call 36; (with_reducible refine (HW2.out _ _ _ _ _ HV5.out).mono ?_); rintro e w6 ⟨rfl, ⟨s6, n6, c6, m6, hv6⟩, hf6⟩; have HV6 := Lib.hid hv6; have HF6 : Hid (Fr (fun i => i = p) w w6) := Lib.hid (HF5.out.trans hf6); clear hv6 hf6))
          rw [rounds_succ]
          go_wp2_with (first | (go_at_call 8; (with_reducible refine (HFL.out _ _ _ _ _ HV6.out).mono ?_); rintro e w7 ⟨rfl, hn7⟩; have HN7 := Lib.hid hn7; clear hn7))
          go_ret
          exact ⟨by rw [HK.out]; rfl, by rw [HK.out]; exact ⟨HN7.out.at_, HF6.out.trans HN7.out.fr⟩⟩
        by_cases k22 : ee2 = 2
        · subst k22
          have HK := Lib.hid (KF.out (by simp) (by simp) (by simp))
          go_wp2_with (first | ((with_reducible show wpList _ _ _ ({ dst := _, op := Op.load 22 _, type := _, pos := _, after := _, guard := _ } :: _) _ _); refine wpList_load_row_g (by rfl) 22 _ rfl gb rfl 22 ((tabL m).map B).toArray (0, 0) _ HG5.out Tryd.underlying22 rfl HIL.out ?_) | (go_at_call 36; (with_reducible refine (HW2.out _ _ _ _ _ HV5.out).mono ?_); rintro e w6 ⟨rfl, ⟨s6, n6, c6, m6, hv6⟩, hf6⟩; have HV6 := Lib.hid hv6; have HF6 : Hid (Fr (fun i => i = p) w w6) := Lib.hid (HF5.out.trans hf6); clear hv6 hf6))
          rw [rounds_succ]
          go_wp2_with (first | (go_at_call 8; (with_reducible refine (HFL.out _ _ _ _ _ HV6.out).mono ?_); rintro e w7 ⟨rfl, hn7⟩; have HN7 := Lib.hid hn7; clear hn7))
          go_ret
          exact ⟨by rw [HK.out]; rfl, by rw [HK.out]; exact ⟨HN7.out.at_, HF6.out.trans HN7.out.fr⟩⟩
        have HK := Lib.hid (K2.out (by simp) k20 k22)
        have b20 : (ee2 == 0) = false := by simpa using k20
        have b22 : (ee2 == 2) = false := by simpa using k22
        go_wp2_with (first | ((with_reducible show wpList _ _ _ ({ dst := _, op := Op.load 22 _, type := _, pos := _, after := _, guard := _ } :: _) _ _); refine wpList_load_row_g (by rfl) 22 _ rfl gb rfl 22 ((tabL m).map B).toArray (0, 0) _ HG5.out Tryd.underlying22 rfl HIL.out ?_) | (go_at_call 36; (with_reducible refine (HW2.out _ _ _ _ _ HV5.out).mono ?_); rintro e w6 ⟨rfl, ⟨s6, n6, c6, m6, hv6⟩, hf6⟩; have HV6 := Lib.hid hv6; have HF6 : Hid (Fr (fun i => i = p) w w6) := Lib.hid (HF5.out.trans hf6); clear hv6 hf6))
        go_ret
        exact ⟨by rw [HK.out]; rfl, by rw [HK.out]; exact ⟨⟨_, _, _, _, HV6.out⟩, HF6.out⟩⟩
      by_cases k12 : ee1 = 2
      · subst k12
        go_wp2_with (first | ((with_reducible show wpList _ _ _ ({ dst := _, op := Op.load 22 _, type := _, pos := _, after := _, guard := _ } :: _) _ _); refine wpList_load_row_g (by rfl) 22 _ rfl gb rfl 22 ((tabL m).map B).toArray (0, 0) _ HG4.out Tryd.underlying22 rfl HIL.out ?_) | (go_at_call 36; (with_reducible refine (HW1.out _ HV4.out).mono ?_); rintro e w5 ⟨rfl, ⟨s5, n5, c5, m5, hv5⟩, hf5⟩; have HV5 := Lib.hid hv5; have HG5 := Lib.hid (hf5.keep HG4.out hgp); have HF5 : Hid (Fr (fun i => i = p) w w5) := Lib.hid ((HF4.out.weaken (fun _ _ h => h.elim)).trans hf5); clear hv5 hf5))
        rw [rounds_succ]
        by_cases k20 : ee2 = 0
        · subst k20
          have HK := Lib.hid (KF.out (by simp) (by simp) (by simp))
          go_wp2_with (first | ((with_reducible show wpList _ _ _ ({ dst := _, op := Op.load 22 _, type := _, pos := _, after := _, guard := _ } :: _) _ _); refine wpList_load_row_g (by rfl) 22 _ rfl gb rfl 22 ((tabL m).map B).toArray (0, 0) _ HG5.out Tryd.underlying22 rfl HIL.out ?_) | (go_at_call 36; (with_reducible refine (HW2.out _ _ _ _ _ HV5.out).mono ?_); rintro e w6 ⟨rfl, ⟨s6, n6, c6, m6, hv6⟩, hf6⟩; have HV6 := Lib.hid hv6; have HF6 : Hid (Fr (fun i => i = p) w w6) := Lib.hid (HF5.out.trans hf6); clear hv6 hf6))
          rw [rounds_succ]
          go_wp2_with (first | (go_at_call 8; (with_reducible refine (HFL.out _ _ _ _ _ HV6.out).mono ?_); rintro e w7 ⟨rfl, hn7⟩; have HN7 := Lib.hid hn7; clear hn7))
          go_ret
          exact ⟨by rw [HK.out]; rfl, by rw [HK.out]; exact ⟨HN7.out.at_, HF6.out.trans HN7.out.fr⟩⟩
        by_cases k22 : ee2 = 2
        · subst k22
          have HK := Lib.hid (K22.out (by simp) (by simp) (by simp))
          go_wp2_with (first | ((with_reducible show wpList _ _ _ ({ dst := _, op := Op.load 22 _, type := _, pos := _, after := _, guard := _ } :: _) _ _); refine wpList_load_row_g (by rfl) 22 _ rfl gb rfl 22 ((tabL m).map B).toArray (0, 0) _ HG5.out Tryd.underlying22 rfl HIL.out ?_) | (go_at_call 36; (with_reducible refine (HW2.out _ _ _ _ _ HV5.out).mono ?_); rintro e w6 ⟨rfl, ⟨s6, n6, c6, m6, hv6⟩, hf6⟩; have HV6 := Lib.hid hv6; have HF6 : Hid (Fr (fun i => i = p) w w6) := Lib.hid (HF5.out.trans hf6); clear hv6 hf6))
          rw [rounds_succ]
          go_wp2
          go_ret
          exact ⟨by rw [HK.out]; rfl, by rw [HK.out]; exact ⟨⟨_, _, _, _, HV6.out⟩, HF6.out⟩⟩
        have HK := Lib.hid (K2.out (by simp) k20 k22)
        have b20 : (ee2 == 0) = false := by simpa using k20
        have b22 : (ee2 == 2) = false := by simpa using k22
        go_wp2_with (first | ((with_reducible show wpList _ _ _ ({ dst := _, op := Op.load 22 _, type := _, pos := _, after := _, guard := _ } :: _) _ _); refine wpList_load_row_g (by rfl) 22 _ rfl gb rfl 22 ((tabL m).map B).toArray (0, 0) _ HG5.out Tryd.underlying22 rfl HIL.out ?_) | (go_at_call 36; (with_reducible refine (HW2.out _ _ _ _ _ HV5.out).mono ?_); rintro e w6 ⟨rfl, ⟨s6, n6, c6, m6, hv6⟩, hf6⟩; have HV6 := Lib.hid hv6; have HF6 : Hid (Fr (fun i => i = p) w w6) := Lib.hid (HF5.out.trans hf6); clear hv6 hf6))
        go_ret
        exact ⟨by rw [HK.out]; rfl, by rw [HK.out]; exact ⟨⟨_, _, _, _, HV6.out⟩, HF6.out⟩⟩
      have HK := Lib.hid (K1.out k10 k12)
      have b10 : (ee1 == 0) = false := by simpa using k10
      have b12 : (ee1 == 2) = false := by simpa using k12
      go_wp2_with (first | ((with_reducible show wpList _ _ _ ({ dst := _, op := Op.load 22 _, type := _, pos := _, after := _, guard := _ } :: _) _ _); refine wpList_load_row_g (by rfl) 22 _ rfl gb rfl 22 ((tabL m).map B).toArray (0, 0) _ HG4.out Tryd.underlying22 rfl HIL.out ?_) | (go_at_call 36; (with_reducible refine (HW1.out _ HV4.out).mono ?_); rintro e w5 ⟨rfl, ⟨s5, n5, c5, m5, hv5⟩, hf5⟩; have HV5 := Lib.hid hv5; have HG5 := Lib.hid (hf5.keep HG4.out hgp); have HF5 : Hid (Fr (fun i => i = p) w w5) := Lib.hid ((HF4.out.weaken (fun _ _ h => h.elim)).trans hf5); clear hv5 hf5))
      go_ret
      exact ⟨by rw [HK.out]; rfl, by rw [HK.out]; exact ⟨⟨_, _, _, _, HV5.out⟩, HF5.out⟩⟩

end Go.Proofs.YtmkmpfnadcmcoaaDoor.RmKeep
