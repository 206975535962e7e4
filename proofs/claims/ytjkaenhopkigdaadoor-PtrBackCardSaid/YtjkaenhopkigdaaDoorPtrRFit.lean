/- Whether a pointer fits a block: the walks of ptr.Fits of a hole, and of lazaretref05.Fits. -/
import Derived.Test.YtjkaenhopkigdaaDoorPtrFit
import Derived.Test.YtjkaenhopkigdaaDoorPtrROf
import Derived.Test.YtjkaenhopkigdaaDoorWordTake
set_option linter.unusedVariables false
set_option linter.unusedSimpArgs false
namespace Go.Proofs.YtjkaenhopkigdaaDoor.PtrRFit
open Go Go.RowKit Go.Proofs.YtjkaenhopkigdaaDoor.K Go.Proofs.YtjkaenhopkigdaaDoor.EqKit Go.Proofs.YtjkaenhopkigdaaDoor.PtrKit Go.Proofs.YtjkaenhopkigdaaDoor.ArrKit Go.Proofs.YtjkaenhopkigdaaDoor.HeldKit Go.Proofs.YtjkaenhopkigdaaDoor.PtrAsk Go.Proofs.YtjkaenhopkigdaaDoor.ShaStep Go.Proofs.YtjkaenhopkigdaaDoor.ShaRef Go.Proofs.YtjkaenhopkigdaaDoor.ShaSum Go.Proofs.YtjkaenhopkigdaaDoor.ShaRSum Go.Proofs.YtjkaenhopkigdaaDoor.PtrOf Go.Proofs.YtjkaenhopkigdaaDoor.PtrFit Go.Proofs.YtjkaenhopkigdaaDoor.WordTake

set_option maxHeartbeats 2000000 in
set_option maxRecDepth 100000 in
theorem fits_hole (a b : Int) (s bl : List UInt8) (w : World) (hs : s.length = 32) (hbl : bl.length = 128) (ha : (Lit.int .i64 a).wf = true) (hb : (Lit.int .i64 b).wf = true) (k0 : isH a b s = true) :
    Calls Tryd.prog 17 #[.agg (PC a b s).toArray, .agg (bl.map B).toArray] w fun e w' => e = .returned (.bool (allZ bl)) ∧ Fr0 w w' := by
  have HSH : Hid (∀ W : World, Calls Tryd.prog 14 #[.agg (PC a b s).toArray] W fun e w' => e = .returned (.bool true) ∧ Fr0 W w') := Lib.hid (fun W => by
    have := ish_calls a b s W hs ha hb
    rw [k0] at this
    exact this)
  have HIP : Hid ((Tryd.prog.info? 26).map (·.size) = some (PC a b s).toArray.size) := Lib.hid (by rw [info_p, List.size_toArray, PC_length, hs])
  generalize hy : (PC a b s).toArray = Y at *
  generalize hxx : (bl.map B).toArray = X at *
  have HXX := Lib.hid hxx
  have HP0 : Hid (Bk ((w.alloc (.cells Y 26)).alloc (.cells X 22)) w.heap.size Y 26) := Lib.hid (Bk.alloc (Bk.new w _) _)
  have HF0 : Hid (Fr0 w ((w.alloc (.cells Y 26)).alloc (.cells X 22))) := Lib.hid (Fr.alloc (Fr.alloc (Fr.refl _ _) _) _)
  have HX0 : Hid (Bk ((w.alloc (.cells Y 26)).alloc (.cells X 22)) (w.heap.size + 1) X 22) := Lib.hid (by have := Bk.new (w.alloc (.cells Y 26)) (.cells X 22); rwa [show (w.alloc (.cells Y 26)).heap.size = w.heap.size + 1 by simp] at this)
  have HRD : Hid (∀ W : World, W.heap[w.heap.size + 1]? = some (.cells X 22 (0, 0)) → Rd W (some ⟨w.heap.size + 1, 0, none⟩) bl) := Lib.hid (fun W h => Rd.block h (fun i hi => by rw [Nat.zero_add, ← hxx]; simp [hi]))
  have HZ : Hid (∀ (W : World), Rd W (some ⟨w.heap.size + 1, 0, none⟩) bl → Calls Tryd.prog 33 #[.slice (some ⟨w.heap.size + 1, 0, none⟩) 128 128] W fun e w' => e = .returned (.bool (allZ bl)) ∧ W = w') := Lib.hid (fun W h1 => zero_calls (some ⟨w.heap.size + 1, 0, none⟩) 128 128 bl W hbl h1 (by omega) (by omega) (by omega))
  clear ha hb k0 hy hxx hs hbl
  go_enter Tryd.func17, Tryd.ntmps17
  go_wp2_with (first | (refine wpList_load_row rfl 26 _ rfl w.heap.size rfl 26 Y (0, 0) _ HP0.out Tryd.underlying26 rfl HIP.out ?_) | (go_at_call 14; (with_reducible refine (HSH.out _).mono ?_); rintro e w3 ⟨rfl, hf3⟩; have HF3 := Lib.hid (HF0.out.then0 hf3); have HX3 := Lib.hid (hf3.keep HX0.out (fun h => h)); clear hf3) | (go_at_call 33; (with_reducible refine (HZ.out _ (HRD.out _ HX3.out)).mono ?_); rintro e w4 ⟨rfl, rfl⟩))
  all_goals go_ret
  exact ⟨by kernel_rfl, HF3.out⟩
theorem zeros_all (l : List UInt8) (n : Nat) (h : l.length = n) : decide (l = List.replicate n 0) = allZ l := by
  rw [Bool.eq_iff_iff, decide_eq_true_eq]
  unfold allZ
  rw [List.all_eq_true, List.eq_replicate_iff]
  simp [h]
def Z128 : List UInt8 := List.replicate 128 0
def ZA : Array Value := (Z128.map B).toArray
theorem Z128_len : Z128.length = 128 := by simp [Z128]
set_option maxHeartbeats 2000000 in
set_option maxRecDepth 100000 in
theorem rfits_hole (a b : Int) (s bl : List UInt8) (w : World) (hs : s.length = 32) (hbl : bl.length = 128) (ha : (Lit.int .i64 a).wf = true) (hb : (Lit.int .i64 b).wf = true) (k0 : isH a b s = true) :
    Calls Tryd.prog 18 #[.agg (PC a b s).toArray, .agg (bl.map B).toArray] w fun e w' => e = .returned (.bool (allZ bl)) ∧ Fr0 w w' := by
  have HIP : Hid ((Tryd.prog.info? 26).map (·.size) = some (PC a b s).toArray.size) := Lib.hid (by rw [info_p, List.size_toArray, PC_length, hs])
  have heq := eq_ptr a b (-1) (-1) s Z hs Z_len ha hb (by decide) (by decide)
  change ∀ W, (Op.equalIn 10000 26 (.agg (PC a b s).toArray) (.agg HOLE)).run Tryd.prog W = .ok (isH a b s) W at heq
  rw [k0] at heq
  have HEB : Hid (∀ W, (Op.equalIn 10000 22 (.agg (bl.map B).toArray) (.agg ZA)).run Tryd.prog W = .ok (allZ bl) W) := Lib.hid (fun W => by
    rw [← zeros_all bl 128 hbl]
    exact eq_bytes (P := Tryd.prog) Tryd.underlying22 Tryd.underlying5 (by kernel_rfl) (by kernel_rfl) (by kernel_rfl) bl Z128 hbl Z128_len W)
  have HIX : Hid ((Tryd.prog.info? 22).map (·.size) = some (bl.map B).toArray.size) := Lib.hid (by rw [List.size_toArray, List.length_map, hbl]; kernel_rfl)
  generalize hy : (PC a b s).toArray = Y at *
  generalize hxx : (bl.map B).toArray = X at *
  have HYY := Lib.hid hy
  have HXX := Lib.hid hxx
  have H0 : Hid (Held w [(w.heap.size, .cells Y 26 (0, 0)), (w.heap.size + 1, .cells X 22 (0, 0))] ((w.alloc (.cells Y 26)).alloc (.cells X 22))) := Lib.hid (Held.cons (Bk.alloc (Bk.new w _) _) (Held.cons (by have := Bk.new (w.alloc (.cells Y 26)) (.cells X 22); rwa [show (w.alloc (.cells Y 26)).heap.size = w.heap.size + 1 by simp] at this) (Held.nil (Fr.alloc (Fr.alloc (Fr.refl _ _) _) _))))
  clear ha hb k0 hy hxx hs hbl
  go_enter Tryd.func18, Tryd.ntmps18
  go_wp2_with fail
  refine wp_region_noPanic ?_
  refine wp_region_held_drew (S := (Held w [(w.heap.size, .cells Y 26 (0, 0)), (w.heap.size + 1, .cells X 22 (0, 0))])) (by kernel_rfl) (Held.drew H0.out) (fun hHeld0 => ?_)
  change wpAnyH _ _ _ _ _ 3 #[false, false, false] _ _
  refine wpAnyH_take (i := 0) (v := .agg Y) rfl (by kernel_rfl) (by kernel_rfl) (by kernel_rfl) (fun _ _ _ h => h) (yields_row (by kernel_rfl) 26 _ rfl w.heap.size rfl 26 Y (0, 0) _ (fun w h => Held.a0 h) Tryd.underlying26 rfl HIP.out) hHeld0 ?_
  simp only [Act.put, List.getElem_toArray, List.getElem_cons_succ, List.getElem_cons_zero, List.setIfInBounds_toArray, List.set_cons_zero, List.set_cons_succ]
  change wpAnyH _ _ _ _ _ 2 #[true, false, false] _ _
  refine wpAnyH_ready (rs := [1]) (by kernel_rfl) (by simp) ?_
  refine AllReadyH.cons rfl (fun K hK => ?_) AllReadyH.nil
  simp only [List.getElem_toArray, List.getElem_cons_succ, List.getElem_cons_zero]
  refine (if_pos (by kernel_rfl)).mpr ?_
  go_wp2_with fail
  refine (rhole_calls _).mono ?_
  rintro e wx0 ⟨rfl, hfx0⟩
  dsimp only
  refine hK.out _ _ (Held.keep hfx0 hHeld0) (fun hHeld1 => ?_)
  clear hK K hHeld0
  change wpAnyH _ _ _ _ _ 1 #[true, true, false] _ _
  refine wpAnyH_take (i := 2) (v := .bool true) rfl (by kernel_rfl) (by kernel_rfl) (by kernel_rfl) (fun _ _ _ h => h) (Or.inl ⟨by kernel_rfl, fun w hSw => run_eql_op rfl rfl rfl guard_p heq w⟩) hHeld1 ?_
  simp only [Act.put, List.getElem_toArray, List.getElem_cons_succ, List.getElem_cons_zero, List.setIfInBounds_toArray, List.set_cons_zero, List.set_cons_succ]
  change wpAnyH _ _ _ _ _ 0 #[true, true, true] _ _
  refine wpAnyH_done (by kernel_rfl) ?_ _
  refine NoPanic.normal ?_
  have HFIN := Lib.hid (Held.f hHeld1)
  have HEND := Lib.hid hHeld1
  clear hHeld1
  have HX3 := Lib.hid (Held.a0 (Held.tl HEND.out))
  clear HEND
  have heb := HEB.out
  go_wp2_with (first | (refine wpList_load_row rfl 22 _ rfl (w.heap.size + 1) rfl 22 X (0, 0) _ HX3.out Tryd.underlying22 rfl HIX.out ?_) | (refine PtrAsk.build_eq rfl 22 _ rfl ZA (by kernel_rfl) ?_))
  all_goals go_ret
  exact ⟨ret_bb (by kernel_rfl), HFIN.out⟩
set_option maxHeartbeats 2000000 in
set_option maxRecDepth 100000 in
theorem rfits_no (a b : Int) (s bl : List UInt8) (w : World) (hs : s.length = 32) (hbl : bl.length = 128) (ha : (Lit.int .i64 a).wf = true) (hb : (Lit.int .i64 b).wf = true) (k0 : isH a b s = false) :
    Calls Tryd.prog 18 #[.agg (PC a b s).toArray, .agg (bl.map B).toArray] w fun e w' => e = .returned (.bool (decide (s = sumOf bl))) ∧ Fr0 w w' := by
  have HIP : Hid ((Tryd.prog.info? 26).map (·.size) = some (PC a b s).toArray.size) := Lib.hid (by rw [info_p, List.size_toArray, PC_length, hs])
  have heq := eq_ptr a b (-1) (-1) s Z hs Z_len ha hb (by decide) (by decide)
  change ∀ W, (Op.equalIn 10000 26 (.agg (PC a b s).toArray) (.agg HOLE)).run Tryd.prog W = .ok (isH a b s) W at heq
  rw [k0] at heq
  have HIS : Hid ((Tryd.prog.info? 24).map (·.size) = some (s.map B).length) := Lib.hid (by rw [info32a, List.length_map, hs])
  have HEQ : Hid (∀ W, (Op.equalIn 10000 24 (.agg (s.map B).toArray) (.agg ((sumOf bl).map B).toArray)).run Tryd.prog W = .ok (decide (s = sumOf bl)) W) := Lib.hid (eq_bytes (P := Tryd.prog) Tryd.underlying24 Tryd.underlying5 (by kernel_rfl) (by kernel_rfl) (by kernel_rfl) s (sumOf bl) hs (sumOf_length bl))
  generalize hy : (PC a b s).toArray = Y at *
  generalize hxx : (bl.map B).toArray = X at *
  have HYY := Lib.hid hy
  have HXX := Lib.hid hxx
  have H0 : Hid (Held w [(w.heap.size, .cells Y 26 (0, 0)), (w.heap.size + 1, .cells X 22 (0, 0))] ((w.alloc (.cells Y 26)).alloc (.cells X 22))) := Lib.hid (Held.cons (Bk.alloc (Bk.new w _) _) (Held.cons (by have := Bk.new (w.alloc (.cells Y 26)) (.cells X 22); rwa [show (w.alloc (.cells Y 26)).heap.size = w.heap.size + 1 by simp] at this) (Held.nil (Fr.alloc (Fr.alloc (Fr.refl _ _) _) _))))
  have HRG : Hid (∀ W : World, W.heap[w.heap.size]? = some (.cells Y 26 (0, 0)) → W.rangeAt w.heap.size 2 (s.map B)) := Lib.hid (fun W h j v hj => by
    rw [Bk.cell h, ← hy, PC, List.getElem?_toArray, Nat.add_comm 2 j]
    simpa using hj)
  have HRD : Hid (∀ W : World, W.heap[w.heap.size + 1]? = some (.cells X 22 (0, 0)) → Rd W (some ⟨w.heap.size + 1, 0, none⟩) bl) := Lib.hid (fun W h => Rd.block h (fun i hi => by rw [Nat.zero_add, ← hxx]; simp [hi]))
  have HSM : Hid (∀ (W : World), Rd W (some ⟨w.heap.size + 1, 0, none⟩) bl → Calls Tryd.prog 19 #[.slice (some ⟨w.heap.size + 1, 0, none⟩) 128 128] W fun e w' => e = .returned (.agg ((sumOf bl).map B).toArray) ∧ Fr0 W w') := Lib.hid (fun W h1 => rsum_calls (some ⟨w.heap.size + 1, 0, none⟩) 128 128 bl W hbl h1 (by omega))
  generalize sumOf bl = sm at *
  clear ha hb k0 hy hxx hs hbl
  go_enter Tryd.func18, Tryd.ntmps18
  go_wp2_with fail
  refine wp_region_noPanic ?_
  refine wp_region_held_drew (S := (Held w [(w.heap.size, .cells Y 26 (0, 0)), (w.heap.size + 1, .cells X 22 (0, 0))])) (by kernel_rfl) (Held.drew H0.out) (fun hHeld0 => ?_)
  change wpAnyH _ _ _ _ _ 3 #[false, false, false] _ _
  refine wpAnyH_take (i := 0) (v := .agg Y) rfl (by kernel_rfl) (by kernel_rfl) (by kernel_rfl) (fun _ _ _ h => h) (yields_row (by kernel_rfl) 26 _ rfl w.heap.size rfl 26 Y (0, 0) _ (fun w h => Held.a0 h) Tryd.underlying26 rfl HIP.out) hHeld0 ?_
  simp only [Act.put, List.getElem_toArray, List.getElem_cons_succ, List.getElem_cons_zero, List.setIfInBounds_toArray, List.set_cons_zero, List.set_cons_succ]
  change wpAnyH _ _ _ _ _ 2 #[true, false, false] _ _
  refine wpAnyH_ready (rs := [1]) (by kernel_rfl) (by simp) ?_
  refine AllReadyH.cons rfl (fun K hK => ?_) AllReadyH.nil
  simp only [List.getElem_toArray, List.getElem_cons_succ, List.getElem_cons_zero]
  refine (if_pos (by kernel_rfl)).mpr ?_
  go_wp2_with fail
  refine (rhole_calls _).mono ?_
  rintro e wx0 ⟨rfl, hfx0⟩
  dsimp only
  refine hK.out _ _ (Held.keep hfx0 hHeld0) (fun hHeld1 => ?_)
  clear hK K hHeld0
  change wpAnyH _ _ _ _ _ 1 #[true, true, false] _ _
  refine wpAnyH_take (i := 2) (v := .bool false) rfl (by kernel_rfl) (by kernel_rfl) (by kernel_rfl) (fun _ _ _ h => h) (Or.inl ⟨by kernel_rfl, fun w hSw => run_eql_op rfl rfl rfl guard_p heq w⟩) hHeld1 ?_
  simp only [Act.put, List.getElem_toArray, List.getElem_cons_succ, List.getElem_cons_zero, List.setIfInBounds_toArray, List.set_cons_zero, List.set_cons_succ]
  change wpAnyH _ _ _ _ _ 0 #[true, true, true] _ _
  refine wpAnyH_done (by kernel_rfl) ?_ _
  refine NoPanic.normal ?_
  have HFIN := Lib.hid (Held.f hHeld1)
  have HEND := Lib.hid hHeld1
  clear hHeld1
  go_wp2_with fail
  have H3 := HEND
  clear HEND HFIN
  refine wp_region_noPanic ?_
  refine wp_region_held_drew (S := (Held w [(w.heap.size, .cells Y 26 (0, 0)), (w.heap.size + 1, .cells X 22 (0, 0))])) (by kernel_rfl) (Held.drew H3.out) (fun hHeld0 => ?_)
  change wpAnyH _ _ _ _ _ 6 #[false, false, false, false, false, false] _ _
  refine wpAnyH_take (i := 0) (v := (.pointer (some ⟨w.heap.size, 2, none⟩))) rfl (by kernel_rfl) (by kernel_rfl) (by kernel_rfl) (fun _ _ _ h => h) (Or.inl ⟨by kernel_rfl, fun w hSw => by kernel_rfl⟩) hHeld0 ?_
  simp only [Act.put, List.getElem_toArray, List.getElem_cons_succ, List.getElem_cons_zero, List.setIfInBounds_toArray, List.set_cons_zero, List.set_cons_succ]
  change wpAnyH _ _ _ _ _ 5 #[true, false, false, false, false, false] _ _
  refine wpAnyH_take (i := 1) (v := (.agg (s.map B).toArray)) rfl (by kernel_rfl) (by kernel_rfl) (by kernel_rfl) (fun _ _ _ h => h) (yieldsIf_load_mid (by kernel_rfl) 24 _ rfl w.heap.size 2 rfl (s.map B) _ (fun W h => HRG.out W (Held.a0 h)) Tryd.underlying24 rfl HIS.out) hHeld0 ?_
  simp only [Act.put, List.getElem_toArray, List.getElem_cons_succ, List.getElem_cons_zero, List.setIfInBounds_toArray, List.set_cons_zero, List.set_cons_succ]
  change wpAnyH _ _ _ _ _ 4 #[true, true, false, false, false, false] _ _
  refine wpAnyH_take (i := 2) (v := (.slice (some ⟨w.heap.size + 1, 0, none⟩) 128 128)) rfl (by kernel_rfl) (by kernel_rfl) (by kernel_rfl) (fun _ _ _ h => h) (Or.inl ⟨by kernel_rfl, fun w hSw => by kernel_rfl⟩) hHeld0 ?_
  simp only [Act.put, List.getElem_toArray, List.getElem_cons_succ, List.getElem_cons_zero, List.setIfInBounds_toArray, List.set_cons_zero, List.set_cons_succ]
  change wpAnyH _ _ _ _ _ 3 #[true, true, true, false, false, false] _ _
  refine wpAnyH_ready (rs := [3]) (by kernel_rfl) (by simp) ?_
  refine AllReadyH.cons rfl (fun K hK => ?_) AllReadyH.nil
  simp only [List.getElem_toArray, List.getElem_cons_succ, List.getElem_cons_zero]
  refine (if_pos (by kernel_rfl)).mpr ?_
  go_wp2_with fail
  refine (HSM.out _ (HRD.out _ (Held.a0 (Held.tl hHeld0)))).mono ?_
  rintro e wx0 ⟨rfl, hfx0⟩
  dsimp only
  refine hK.out _ _ (Held.keep hfx0 hHeld0) (fun hHeld1 => ?_)
  clear hK K hHeld0
  change wpAnyH _ _ _ _ _ 2 #[true, true, true, true, false, false] _ _
  refine wpAnyH_take (i := 4) (v := .bool (decide (s = sm))) rfl (by kernel_rfl) (by kernel_rfl) (by kernel_rfl) (fun _ _ _ h => h) (Or.inl ⟨by kernel_rfl, fun w hSw => run_eql_op rfl rfl rfl (by kernel_rfl) HEQ.out w⟩) hHeld1 ?_
  simp only [Act.put, List.getElem_toArray, List.getElem_cons_succ, List.getElem_cons_zero, List.setIfInBounds_toArray, List.set_cons_zero, List.set_cons_succ]
  change wpAnyH _ _ _ _ _ 1 #[true, true, true, true, true, false] _ _
  refine wpAnyH_ready (rs := [5]) (by kernel_rfl) (by simp) ?_
  refine AllReadyH.cons rfl (fun K hK => ?_) AllReadyH.nil
  simp only [List.getElem_toArray, List.getElem_cons_succ, List.getElem_cons_zero]
  refine (if_pos (by kernel_rfl)).mpr ?_
  go_wp2_with fail
  refine hK.out _ _ hHeld1 (fun _ => ?_)
  clear hK K
  change wpAnyH _ _ _ _ _ 0 #[true, true, true, true, true, true] _ _
  refine wpAnyH_done (by kernel_rfl) ?_ _
  refine NoPanic.normal ?_
  have HFIN := Lib.hid (Held.f hHeld1)
  have HEND := Lib.hid hHeld1
  clear hHeld1
  go_wp2_with fail
  all_goals go_ret
  exact ⟨by kernel_rfl, HFIN.out⟩

end Go.Proofs.YtjkaenhopkigdaaDoor.PtrRFit
