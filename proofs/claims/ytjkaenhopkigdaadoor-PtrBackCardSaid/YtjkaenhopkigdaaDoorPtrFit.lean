/- Whether a pointer fits a block: the walk of ptr.Fits (of a pointer that is no hole). -/
import Derived.Test.YtjkaenhopkigdaaDoorPtrAsk
import Derived.Test.YtjkaenhopkigdaaDoorPtrOf
import Derived.Test.YtjkaenhopkigdaaDoorShaRSum
set_option linter.unusedVariables false
set_option linter.unusedSimpArgs false
namespace Go.Proofs.YtjkaenhopkigdaaDoor.PtrFit
open Go Go.RowKit Go.Proofs.YtjkaenhopkigdaaDoor.K Go.Proofs.YtjkaenhopkigdaaDoor.EqKit Go.Proofs.YtjkaenhopkigdaaDoor.PtrKit Go.Proofs.YtjkaenhopkigdaaDoor.ArrKit Go.Proofs.YtjkaenhopkigdaaDoor.HeldKit Go.Proofs.YtjkaenhopkigdaaDoor.PtrAsk Go.Proofs.YtjkaenhopkigdaaDoor.ShaStep Go.Proofs.YtjkaenhopkigdaaDoor.ShaRef Go.Proofs.YtjkaenhopkigdaaDoor.ShaSum Go.Proofs.YtjkaenhopkigdaaDoor.ShaRSum Go.Proofs.YtjkaenhopkigdaaDoor.PtrOf

set_option maxHeartbeats 2000000 in
set_option maxRecDepth 100000 in
theorem fits_no (a b : Int) (s bl : List UInt8) (w : World) (hs : s.length = 32) (hbl : bl.length = 128) (ha : (Lit.int .i64 a).wf = true) (hb : (Lit.int .i64 b).wf = true) (k0 : isH a b s = false) {tk tb : TypeId} (hK : Bk w 1 KC tk) (hB : Bk w 0 HB8 tb) :
    Calls Tryd.prog 17 #[.agg (PC a b s).toArray, .agg (bl.map B).toArray] w fun e w' => e = .returned (.bool (decide (sumOf bl = s))) ∧ Fr0 w w' := by
  have HSH : Hid (∀ W : World, Calls Tryd.prog 14 #[.agg (PC a b s).toArray] W fun e w' => e = .returned (.bool false) ∧ Fr0 W w') := Lib.hid (fun W => by
    have := ish_calls a b s W hs ha hb
    rw [k0] at this
    exact this)
  have HIP : Hid ((Tryd.prog.info? 26).map (·.size) = some (PC a b s).toArray.size) := Lib.hid (by rw [info_p, List.size_toArray, PC_length, hs])
  generalize hy : (PC a b s).toArray = Y at *
  generalize hxx : (bl.map B).toArray = X at *
  have HYY := Lib.hid hy
  have HXX := Lib.hid hxx
  have HK := Lib.hid hK
  have HB := Lib.hid hB
  have HP0 : Hid (Bk ((w.alloc (.cells Y 26)).alloc (.cells X 22)) w.heap.size Y 26) := Lib.hid (Bk.alloc (Bk.new w _) _)
  have HF0 : Hid (Fr0 w ((w.alloc (.cells Y 26)).alloc (.cells X 22))) := Lib.hid (Fr.alloc (Fr.alloc (Fr.refl _ _) _) _)
  have HX0 : Hid (Bk ((w.alloc (.cells Y 26)).alloc (.cells X 22)) (w.heap.size + 1) X 22) := Lib.hid (by have := Bk.new (w.alloc (.cells Y 26)) (.cells X 22); rwa [show (w.alloc (.cells Y 26)).heap.size = w.heap.size + 1 by simp] at this)
  have HK0 : Hid (Bk ((w.alloc (.cells Y 26)).alloc (.cells X 22)) 1 KC tk) := Lib.hid (Bk.alloc (Bk.alloc HK.out _) _)
  have HB0 : Hid (Bk ((w.alloc (.cells Y 26)).alloc (.cells X 22)) 0 HB8 tb) := Lib.hid (Bk.alloc (Bk.alloc HB.out _) _)
  have HRG : Hid (∀ W : World, W.heap[w.heap.size]? = some (.cells Y 26 (0, 0)) → W.rangeAt w.heap.size 2 (s.map B)) := Lib.hid (fun W h j v hj => by
    rw [Bk.cell h, ← hy, PC, List.getElem?_toArray, Nat.add_comm 2 j]
    simpa using hj)
  have HRD : Hid (∀ W : World, W.heap[w.heap.size + 1]? = some (.cells X 22 (0, 0)) → Rd W (some ⟨w.heap.size + 1, 0, none⟩) bl) := Lib.hid (fun W h => Rd.block h (fun i hi => by rw [Nat.zero_add, ← hxx]; simp [hi]))
  have HSM : Hid (∀ (W : World), Rd W (some ⟨w.heap.size + 1, 0, none⟩) bl → Bk W 1 KC tk → Bk W 0 HB8 tb → Calls Tryd.prog 31 #[.slice (some ⟨w.heap.size + 1, 0, none⟩) 128 128] W fun e w' => e = .returned (.agg ((sumOf bl).map B).toArray) ∧ Fr0 W w') := Lib.hid (fun W h1 h2 h3 => sum_calls (some ⟨w.heap.size + 1, 0, none⟩) 128 128 bl W hbl h1 (by omega) h2 h3)
  have HEQ : Hid (∀ W, _) := Lib.hid (eq_bytes (P := Tryd.prog) Tryd.underlying24 Tryd.underlying5 (by kernel_rfl) (by kernel_rfl) (by kernel_rfl) (sumOf bl) s (sumOf_length bl) hs)
  have HIS : Hid ((Tryd.prog.info? 24).map (·.size) = some (s.map B).length) := Lib.hid (by rw [info32a, List.length_map, hs])
  generalize sumOf bl = sm at *
  clear ha hb k0 hK hB hy hxx hs hbl
  go_enter Tryd.func17, Tryd.ntmps17
  go_wp2_with (first | (refine wpList_load_row rfl 26 _ rfl w.heap.size rfl 26 Y (0, 0) _ HP0.out Tryd.underlying26 rfl HIP.out ?_) | (go_at_call 14; (with_reducible refine (HSH.out _).mono ?_); rintro e w3 ⟨rfl, hf3⟩; have HF3 := Lib.hid (HF0.out.then0 hf3); have H3h := Lib.hid (Held.cons (hf3.keep HP0.out (fun h => h)) (Held.cons (hf3.keep HX0.out (fun h => h)) (Held.cons (hf3.keep HK0.out (fun h => h)) (Held.cons (hf3.keep HB0.out (fun h => h)) (Held.nil HF3.out))))); clear hf3))
  have H3 := H3h.out
  refine wp_region_noPanic ?_
  refine wp_region_held_drew (S := (Held w [(w.heap.size, .cells Y 26 (0, 0)), (w.heap.size + 1, .cells X 22 (0, 0)), (1, .cells KC tk (0, 0)), (0, .cells HB8 tb (0, 0))])) (by kernel_rfl) (Held.drew H3) (fun hHeld0 => ?_)
  change wpAnyH _ _ _ _ _ 6 #[false, false, false, false, false, false] _ _
  refine wpAnyH_take (i := 0) (v := (.slice (some ⟨w.heap.size + 1, 0, none⟩) 128 128)) rfl (by kernel_rfl) (by kernel_rfl) (by kernel_rfl) (fun _ _ _ h => h) (Or.inl ⟨by kernel_rfl, fun w hSw => by kernel_rfl⟩) hHeld0 ?_
  simp only [Act.put, List.setIfInBounds_toArray, List.set_cons_zero, List.set_cons_succ]
  change wpAnyH _ _ _ _ _ 5 #[true, false, false, false, false, false] _ _
  refine wpAnyH_take (i := 2) (v := (.pointer (some ⟨w.heap.size, 2, none⟩))) rfl (by kernel_rfl) (by kernel_rfl) (by kernel_rfl) (fun _ _ _ h => h) (Or.inl ⟨by kernel_rfl, fun w hSw => by kernel_rfl⟩) hHeld0 ?_
  simp only [Act.put, List.setIfInBounds_toArray, List.set_cons_zero, List.set_cons_succ]
  change wpAnyH _ _ _ _ _ 4 #[true, false, true, false, false, false] _ _
  refine wpAnyH_take (i := 3) (v := (.agg (s.map B).toArray)) rfl (by kernel_rfl) (by kernel_rfl) (by kernel_rfl) (fun _ _ _ h => h) (yieldsIf_load_mid (by kernel_rfl) 24 _ rfl w.heap.size 2 rfl (s.map B) _ (fun W h => HRG.out W (Held.a0 h)) Tryd.underlying24 rfl HIS.out) hHeld0 ?_
  simp only [Act.put, List.setIfInBounds_toArray, List.set_cons_zero, List.set_cons_succ]
  change wpAnyH _ _ _ _ _ 3 #[true, false, true, true, false, false] _ _
  refine wpAnyH_ready (rs := [1]) (by kernel_rfl) (by simp) ?_
  refine AllReadyH.cons rfl (fun K hK => ?_) AllReadyH.nil
  simp only [List.getElem_toArray, List.getElem_cons_succ, List.getElem_cons_zero]
  refine (if_pos (by kernel_rfl)).mpr ?_
  go_wp2_with fail
  refine (HSM.out _ (HRD.out _ (Held.a0 (Held.tl hHeld0))) (Held.a0 (Held.tl (Held.tl hHeld0))) (Held.a0 (Held.tl (Held.tl (Held.tl hHeld0))))).mono ?_
  rintro e wx0 ⟨rfl, hfx0⟩
  dsimp only
  refine hK.out _ _ (Held.keep hfx0 hHeld0) (fun hHeld1 => ?_)
  clear hK K hHeld0
  change wpAnyH _ _ _ _ _ 2 #[true, true, true, true, false, false] _ _
  refine wpAnyH_take (i := 4) (v := .bool (decide (sm = s))) rfl (by kernel_rfl) (by kernel_rfl) (by kernel_rfl) (fun _ _ _ h => h) (Or.inl ⟨by kernel_rfl, fun w hSw => run_eql_op rfl rfl rfl (by kernel_rfl) HEQ.out w⟩) hHeld1 ?_
  simp only [Act.put, List.setIfInBounds_toArray, List.set_cons_zero, List.set_cons_succ]
  change wpAnyH _ _ _ _ _ 1 #[true, true, true, true, true, false] _ _
  refine wpAnyH_ready (rs := [5]) (by kernel_rfl) (by simp) ?_
  refine AllReadyH.cons rfl (fun K hK => ?_) AllReadyH.nil
  simp only [List.getElem_toArray, List.getElem_cons_succ, List.getElem_cons_zero]
  refine (if_pos (by kernel_rfl)).mpr ?_
  go_wp2_with fail
  refine hK.out _ _ hHeld1 (fun _ => ?_)
  clear hK K
  change wpAnyH _ _ _ _ _ 0 #[true, true, true, true, true, true] _ _
  refine wpAnyH_done (by kernel_rfl) ?_ _
  refine NoPanic.normal ?_
  have HFIN := Lib.hid (Held.f hHeld1)
  have HEND := Lib.hid hHeld1
  clear hHeld1
  go_wp2_with fail
  all_goals go_ret
  exact ⟨by kernel_rfl, HFIN.out⟩

end Go.Proofs.YtjkaenhopkigdaaDoor.PtrFit
