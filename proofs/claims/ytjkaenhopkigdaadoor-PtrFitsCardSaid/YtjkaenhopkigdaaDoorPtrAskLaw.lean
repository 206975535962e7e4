/- The law PtrAsks, walked. -/
import Derived.Test.YtjkaenhopkigdaaDoorPtrAlive
import Derived.Test.YtjkaenhopkigdaaDoorPtrRFit
import Derived.Test.YtjkaenhopkigdaaDoorPtrRRight
set_option linter.unusedVariables false
set_option linter.unusedSimpArgs false
namespace Go.Proofs.YtjkaenhopkigdaaDoor.PtrAskLaw
open Go Go.RowKit Go.Proofs.YtjkaenhopkigdaaDoor.K Go.Proofs.YtjkaenhopkigdaaDoor.EqKit Go.Proofs.YtjkaenhopkigdaaDoor.PtrKit Go.Proofs.YtjkaenhopkigdaaDoor.ArrKit Go.Proofs.YtjkaenhopkigdaaDoor.HeldKit Go.Proofs.YtjkaenhopkigdaaDoor.PtrAsk Go.Proofs.YtjkaenhopkigdaaDoor.ShaStep Go.Proofs.YtjkaenhopkigdaaDoor.ShaRef Go.Proofs.YtjkaenhopkigdaaDoor.ShaSum Go.Proofs.YtjkaenhopkigdaaDoor.ShaRSum Go.Proofs.YtjkaenhopkigdaaDoor.PtrOf Go.Proofs.YtjkaenhopkigdaaDoor.PtrFit Go.Proofs.YtjkaenhopkigdaaDoor.PtrRFit Go.Proofs.YtjkaenhopkigdaaDoor.PtrAlive Go.Proofs.YtjkaenhopkigdaaDoor.PtrRRight Go.Proofs.YtjkaenhopkigdaaDoor.WordTake

def fitB (a b : Int) (s bl : List UInt8) : Bool := if isH a b s then allZ bl else decide (sumOf bl = s)
theorem fits_calls (a b : Int) (s bl : List UInt8) (w : World) (hs : s.length = 32) (hbl : bl.length = 128) (ha : (Lit.int .i64 a).wf = true) (hb : (Lit.int .i64 b).wf = true) {tk tb : TypeId} (hK : Bk w 1 KC tk) (hB : Bk w 0 HB8 tb) :
    Calls Tryd.prog 17 #[.agg (PC a b s).toArray, .agg (bl.map B).toArray] w fun e w' => e = .returned (.bool (fitB a b s bl)) ∧ Fr0 w w' := by
  cases h : isH a b s with
  | true => rw [show fitB a b s bl = allZ bl by simp [fitB, h]]; exact fits_hole a b s bl w hs hbl ha hb h
  | false => rw [show fitB a b s bl = decide (sumOf bl = s) by simp [fitB, h]]; exact fits_no a b s bl w hs hbl ha hb h hK hB
theorem rfits_calls (a b : Int) (s bl : List UInt8) (w : World) (hs : s.length = 32) (hbl : bl.length = 128) (ha : (Lit.int .i64 a).wf = true) (hb : (Lit.int .i64 b).wf = true) :
    Calls Tryd.prog 18 #[.agg (PC a b s).toArray, .agg (bl.map B).toArray] w fun e w' => e = .returned (.bool (fitB a b s bl)) ∧ Fr0 w w' := by
  cases h : isH a b s with
  | true => rw [show fitB a b s bl = allZ bl by simp [fitB, h]]; exact rfits_hole a b s bl w hs hbl ha hb h
  | false =>
    rw [show fitB a b s bl = decide (s = sumOf bl) by simp only [fitB, h]; rw [Bool.eq_iff_iff]; simp [eq_comm]]
    exact rfits_no a b s bl w hs hbl ha hb h
set_option maxHeartbeats 2000000 in
set_option maxRecDepth 100000 in
theorem asks_law (a b : Int) (s bl : List UInt8) (w : World) (hs : s.length = 32) (hbl : bl.length = 128) (ha : (Lit.int .i64 a).wf = true) (hb : (Lit.int .i64 b).wf = true) {tk tb : TypeId} (hK : Bk w 1 KC tk) (hB : Bk w 0 HB8 tb) :
    Calls Tryd.prog 4 #[.agg (PC a b s).toArray, .agg (bl.map B).toArray] w fun e w' => e = .returned (.bool true) ∧ Fr0 w w' := by
  have HSH : Hid (∀ W : World, Calls Tryd.prog 14 #[.agg (PC a b s).toArray] W fun e w' => e = .returned (.bool (isH a b s)) ∧ Fr0 W w') := Lib.hid (fun W => ish_calls a b s W hs ha hb)
  have HRI : Hid (∀ W : World, Calls Tryd.prog 15 #[.agg (PC a b s).toArray] W fun e w' => e = .returned (.bool (rightB a b s)) ∧ Fr0 W w') := Lib.hid (fun W => right_calls a b s W hs ha hb)
  have HRR : Hid (∀ W : World, Calls Tryd.prog 16 #[.agg (PC a b s).toArray] W fun e w' => e = .returned (.bool (rightB a b s)) ∧ Fr0 W w') := Lib.hid (fun W => rright_calls a b s W hs ha hb)
  have HFI : Hid (∀ W : World, Bk W 1 KC tk → Bk W 0 HB8 tb → Calls Tryd.prog 17 #[.agg (PC a b s).toArray, .agg (bl.map B).toArray] W fun e w' => e = .returned (.bool (fitB a b s bl)) ∧ Fr0 W w') := Lib.hid (fun W h1 h2 => fits_calls a b s bl W hs hbl ha hb h1 h2)
  have HRF : Hid (∀ W : World, Calls Tryd.prog 18 #[.agg (PC a b s).toArray, .agg (bl.map B).toArray] W fun e w' => e = .returned (.bool (fitB a b s bl)) ∧ Fr0 W w') := Lib.hid (fun W => rfits_calls a b s bl W hs hbl ha hb)
  have HIP : Hid ((Tryd.prog.info? 26).map (·.size) = some (PC a b s).toArray.size) := Lib.hid (by rw [info_p, List.size_toArray, PC_length, hs])
  have HIX : Hid ((Tryd.prog.info? 22).map (·.size) = some (bl.map B).toArray.size) := Lib.hid (by rw [List.size_toArray, List.length_map, hbl]; kernel_rfl)
  have heq := eq_ptr a b (-1) (-1) s Z hs Z_len ha hb (by decide) (by decide)
  change ∀ W, (Op.equalIn 10000 26 (.agg (PC a b s).toArray) (.agg HOLE)).run Tryd.prog W = .ok (isH a b s) W at heq
  generalize isH a b s = r at *
  generalize rightB a b s = q at *
  generalize fitB a b s bl = f at *
  generalize (PC a b s).toArray = Y at *
  generalize (bl.map B).toArray = X at *
  have H0 : Hid (Held w [(w.heap.size, .cells Y 26 (0, 0)), (w.heap.size + 1, .cells X 22 (0, 0)), (1, .cells KC tk (0, 0)), (0, .cells HB8 tb (0, 0))] ((w.alloc (.cells Y 26)).alloc (.cells X 22))) := Lib.hid (Held.cons (Bk.alloc (Bk.new w _) _) (Held.cons (by have := Bk.new (w.alloc (.cells Y 26)) (.cells X 22); rwa [show (w.alloc (.cells Y 26)).heap.size = w.heap.size + 1 by simp] at this) (Held.cons (Bk.alloc (Bk.alloc hK _) _) (Held.cons (Bk.alloc (Bk.alloc hB _) _) (Held.nil (Fr.alloc (Fr.alloc (Fr.refl _ _) _) _))))))
  clear hs hbl ha hb hK hB
  go_enter Tryd.func4, Tryd.ntmps4
  go_wp2_with fail
  refine wp_region_noPanic ?_
  refine wp_region_held_drew (S := (Held w [(w.heap.size, .cells Y 26 (0, 0)), (w.heap.size + 1, .cells X 22 (0, 0)), (1, .cells KC tk (0, 0)), (0, .cells HB8 tb (0, 0))])) (by kernel_rfl) (Held.drew H0.out) (fun hHeld0 => ?_)
  change wpAnyH _ _ _ _ _ 26 #[false, false, false, false, false, false, false, false, false, false, false, false, false, false, false, false, false, false, false, false, false, false, false, false, false, false] { tmps := #[.agg Y, .agg X, .pointer (some ⟨w.heap.size, 0, none⟩), .pointer (some ⟨w.heap.size + 1, 0, none⟩), .bool false, undef, undef, undef, undef, undef, undef, undef, undef, undef, undef, undef, undef, undef, undef, undef, undef, undef, undef, undef, undef, undef, undef, undef, undef, undef], defers := [] } _
  refine wpAnyH_ready (rs := [0]) (by kernel_rfl) (by simp) ?_
  refine AllReadyH.cons rfl (fun K hK => ?_) AllReadyH.nil
  simp only [List.getElem_toArray, List.getElem_cons_succ, List.getElem_cons_zero]
  refine (if_pos (by kernel_rfl)).mpr ?_
  go_wp2_with fail
  refine (alive_calls _ (Held.a0 (Held.tl (Held.tl hHeld0))) (Held.a0 (Held.tl (Held.tl (Held.tl hHeld0))))).mono ?_
  rintro e wx0 ⟨rfl, hfx0⟩
  dsimp only
  refine hK.out _ _ (Held.keep hfx0 hHeld0) (fun hHeld1 => ?_)
  clear hK K hHeld0
  change wpAnyH _ _ _ _ _ 25 #[true, false, false, false, false, false, false, false, false, false, false, false, false, false, false, false, false, false, false, false, false, false, false, false, false, false] { tmps := #[.agg Y, .agg X, .pointer (some ⟨w.heap.size, 0, none⟩), .pointer (some ⟨w.heap.size + 1, 0, none⟩), .bool false, .bool true, undef, undef, undef, undef, undef, undef, undef, undef, undef, undef, undef, undef, undef, undef, undef, undef, undef, undef, undef, undef, undef, undef, undef, undef], defers := [] } _
  refine wpAnyH_take (i := 1) (v := .bool true) rfl (by kernel_rfl) (by kernel_rfl) (by kernel_rfl) (fun _ _ _ h => h) (Or.inl ⟨by kernel_rfl, fun w hSw => by first | kernel_rfl | (go_simp; done)⟩) hHeld1 ?_
  change wpAnyH _ _ _ _ _ 24 #[true, true, false, false, false, false, false, false, false, false, false, false, false, false, false, false, false, false, false, false, false, false, false, false, false, false] { tmps := #[.agg Y, .agg X, .pointer (some ⟨w.heap.size, 0, none⟩), .pointer (some ⟨w.heap.size + 1, 0, none⟩), .bool false, .bool true, .bool true, undef, undef, undef, undef, undef, undef, undef, undef, undef, undef, undef, undef, undef, undef, undef, undef, undef, undef, undef, undef, undef, undef, undef], defers := [] } _
  refine wpAnyH_take (i := 2) (v := .agg Y) rfl (by kernel_rfl) (by kernel_rfl) (by kernel_rfl) (fun _ _ _ h => h) (yields_row (by kernel_rfl) 26 _ rfl (w.heap.size) rfl 26 Y (0, 0) _ (fun w h => Held.a0 h) Tryd.underlying26 rfl HIP.out) hHeld1 ?_
  change wpAnyH _ _ _ _ _ 23 #[true, true, true, false, false, false, false, false, false, false, false, false, false, false, false, false, false, false, false, false, false, false, false, false, false, false] { tmps := #[.agg Y, .agg X, .pointer (some ⟨w.heap.size, 0, none⟩), .pointer (some ⟨w.heap.size + 1, 0, none⟩), .bool false, .bool true, .bool true, .agg Y, undef, undef, undef, undef, undef, undef, undef, undef, undef, undef, undef, undef, undef, undef, undef, undef, undef, undef, undef, undef, undef, undef], defers := [] } _
  refine wpAnyH_take (i := 4) (v := .agg Y) rfl (by kernel_rfl) (by kernel_rfl) (by kernel_rfl) (fun _ _ _ h => h) (yields_row (by kernel_rfl) 26 _ rfl (w.heap.size) rfl 26 Y (0, 0) _ (fun w h => Held.a0 h) Tryd.underlying26 rfl HIP.out) hHeld1 ?_
  change wpAnyH _ _ _ _ _ 22 #[true, true, true, false, true, false, false, false, false, false, false, false, false, false, false, false, false, false, false, false, false, false, false, false, false, false] { tmps := #[.agg Y, .agg X, .pointer (some ⟨w.heap.size, 0, none⟩), .pointer (some ⟨w.heap.size + 1, 0, none⟩), .bool false, .bool true, .bool true, .agg Y, undef, .agg Y, undef, undef, undef, undef, undef, undef, undef, undef, undef, undef, undef, undef, undef, undef, undef, undef, undef, undef, undef, undef], defers := [] } _
  refine wpAnyH_ready (rs := [3]) (by kernel_rfl) (by simp) ?_
  refine AllReadyH.cons rfl (fun K hK => ?_) AllReadyH.nil
  simp only [List.getElem_toArray, List.getElem_cons_succ, List.getElem_cons_zero]
  refine (if_pos (by kernel_rfl)).mpr ?_
  go_wp2_with fail
  refine (HSH.out _).mono ?_
  rintro e wx1 ⟨rfl, hfx1⟩
  dsimp only
  refine hK.out _ _ (Held.keep hfx1 hHeld1) (fun hHeld2 => ?_)
  clear hK K hHeld1
  change wpAnyH _ _ _ _ _ 21 #[true, true, true, true, true, false, false, false, false, false, false, false, false, false, false, false, false, false, false, false, false, false, false, false, false, false] { tmps := #[.agg Y, .agg X, .pointer (some ⟨w.heap.size, 0, none⟩), .pointer (some ⟨w.heap.size + 1, 0, none⟩), .bool false, .bool true, .bool true, .agg Y, .bool r, .agg Y, undef, undef, undef, undef, undef, undef, undef, undef, undef, undef, undef, undef, undef, undef, undef, undef, undef, undef, undef, undef], defers := [] } _
  refine wpAnyH_ready (rs := [5]) (by kernel_rfl) (by simp) ?_
  refine AllReadyH.cons rfl (fun K hK => ?_) AllReadyH.nil
  simp only [List.getElem_toArray, List.getElem_cons_succ, List.getElem_cons_zero]
  refine (if_pos (by kernel_rfl)).mpr ?_
  go_wp2_with fail
  refine (rhole_calls _).mono ?_
  rintro e wx2 ⟨rfl, hfx2⟩
  dsimp only
  refine hK.out _ _ (Held.keep hfx2 hHeld2) (fun hHeld3 => ?_)
  clear hK K hHeld2
  change wpAnyH _ _ _ _ _ 20 #[true, true, true, true, true, true, false, false, false, false, false, false, false, false, false, false, false, false, false, false, false, false, false, false, false, false] { tmps := #[.agg Y, .agg X, .pointer (some ⟨w.heap.size, 0, none⟩), .pointer (some ⟨w.heap.size + 1, 0, none⟩), .bool false, .bool true, .bool true, .agg Y, .bool r, .agg Y, .agg HOLE, undef, undef, undef, undef, undef, undef, undef, undef, undef, undef, undef, undef, undef, undef, undef, undef, undef, undef, undef], defers := [] } _
  refine wpAnyH_take (i := 6) (v := .bool r) rfl (by kernel_rfl) (by kernel_rfl) (by kernel_rfl) (fun _ _ _ h => h) (Or.inl ⟨by kernel_rfl, fun w hSw => run_eql_op rfl rfl rfl guard_p heq w⟩) hHeld3 ?_
  change wpAnyH _ _ _ _ _ 19 #[true, true, true, true, true, true, true, false, false, false, false, false, false, false, false, false, false, false, false, false, false, false, false, false, false, false] { tmps := #[.agg Y, .agg X, .pointer (some ⟨w.heap.size, 0, none⟩), .pointer (some ⟨w.heap.size + 1, 0, none⟩), .bool false, .bool true, .bool true, .agg Y, .bool r, .agg Y, .agg HOLE, .bool r, undef, undef, undef, undef, undef, undef, undef, undef, undef, undef, undef, undef, undef, undef, undef, undef, undef, undef], defers := [] } _
  refine wpAnyH_take (i := 7) (v := .bool true) rfl (by kernel_rfl) (by kernel_rfl) (by kernel_rfl) (fun _ _ _ h => h) (Or.inl ⟨by kernel_rfl, fun w hSw => by go_simp <;> simp⟩) hHeld3 ?_
  change wpAnyH _ _ _ _ _ 18 #[true, true, true, true, true, true, true, true, false, false, false, false, false, false, false, false, false, false, false, false, false, false, false, false, false, false] { tmps := #[.agg Y, .agg X, .pointer (some ⟨w.heap.size, 0, none⟩), .pointer (some ⟨w.heap.size + 1, 0, none⟩), .bool false, .bool true, .bool true, .agg Y, .bool r, .agg Y, .agg HOLE, .bool r, .bool true, undef, undef, undef, undef, undef, undef, undef, undef, undef, undef, undef, undef, undef, undef, undef, undef, undef], defers := [] } _
  refine wpAnyH_take (i := 8) (v := .bool true) rfl (by kernel_rfl) (by kernel_rfl) (by kernel_rfl) (fun _ _ _ h => h) (Or.inl ⟨by kernel_rfl, fun w hSw => by first | kernel_rfl | (go_simp; done)⟩) hHeld3 ?_
  change wpAnyH _ _ _ _ _ 17 #[true, true, true, true, true, true, true, true, true, false, false, false, false, false, false, false, false, false, false, false, false, false, false, false, false, false] { tmps := #[.agg Y, .agg X, .pointer (some ⟨w.heap.size, 0, none⟩), .pointer (some ⟨w.heap.size + 1, 0, none⟩), .bool false, .bool true, .bool true, .agg Y, .bool r, .agg Y, .agg HOLE, .bool r, .bool true, .bool true, undef, undef, undef, undef, undef, undef, undef, undef, undef, undef, undef, undef, undef, undef, undef, undef], defers := [] } _
  refine wpAnyH_take (i := 9) (v := .bool true) rfl (by kernel_rfl) (by kernel_rfl) (by kernel_rfl) (fun _ _ _ h => h) (Or.inl ⟨by kernel_rfl, fun w hSw => by first | kernel_rfl | (go_simp; done)⟩) hHeld3 ?_
  change wpAnyH _ _ _ _ _ 16 #[true, true, true, true, true, true, true, true, true, true, false, false, false, false, false, false, false, false, false, false, false, false, false, false, false, false] { tmps := #[.agg Y, .agg X, .pointer (some ⟨w.heap.size, 0, none⟩), .pointer (some ⟨w.heap.size + 1, 0, none⟩), .bool false, .bool true, .bool true, .agg Y, .bool r, .agg Y, .agg HOLE, .bool r, .bool true, .bool true, .bool true, undef, undef, undef, undef, undef, undef, undef, undef, undef, undef, undef, undef, undef, undef, undef], defers := [] } _
  refine wpAnyH_take (i := 10) (v := .agg Y) rfl (by kernel_rfl) (by kernel_rfl) (by kernel_rfl) (fun _ _ _ h => h) (yields_row (by kernel_rfl) 26 _ rfl (w.heap.size) rfl 26 Y (0, 0) _ (fun w h => Held.a0 h) Tryd.underlying26 rfl HIP.out) hHeld3 ?_
  change wpAnyH _ _ _ _ _ 15 #[true, true, true, true, true, true, true, true, true, true, true, false, false, false, false, false, false, false, false, false, false, false, false, false, false, false] { tmps := #[.agg Y, .agg X, .pointer (some ⟨w.heap.size, 0, none⟩), .pointer (some ⟨w.heap.size + 1, 0, none⟩), .bool false, .bool true, .bool true, .agg Y, .bool r, .agg Y, .agg HOLE, .bool r, .bool true, .bool true, .bool true, .agg Y, undef, undef, undef, undef, undef, undef, undef, undef, undef, undef, undef, undef, undef, undef], defers := [] } _
  refine wpAnyH_take (i := 12) (v := .agg Y) rfl (by kernel_rfl) (by kernel_rfl) (by kernel_rfl) (fun _ _ _ h => h) (yields_row (by kernel_rfl) 26 _ rfl (w.heap.size) rfl 26 Y (0, 0) _ (fun w h => Held.a0 h) Tryd.underlying26 rfl HIP.out) hHeld3 ?_
  change wpAnyH _ _ _ _ _ 14 #[true, true, true, true, true, true, true, true, true, true, true, false, true, false, false, false, false, false, false, false, false, false, false, false, false, false] { tmps := #[.agg Y, .agg X, .pointer (some ⟨w.heap.size, 0, none⟩), .pointer (some ⟨w.heap.size + 1, 0, none⟩), .bool false, .bool true, .bool true, .agg Y, .bool r, .agg Y, .agg HOLE, .bool r, .bool true, .bool true, .bool true, .agg Y, undef, .agg Y, undef, undef, undef, undef, undef, undef, undef, undef, undef, undef, undef, undef], defers := [] } _
  refine wpAnyH_ready (rs := [11]) (by kernel_rfl) (by simp) ?_
  refine AllReadyH.cons rfl (fun K hK => ?_) AllReadyH.nil
  simp only [List.getElem_toArray, List.getElem_cons_succ, List.getElem_cons_zero]
  refine (if_pos (by kernel_rfl)).mpr ?_
  go_wp2_with fail
  refine (HRI.out _).mono ?_
  rintro e wx3 ⟨rfl, hfx3⟩
  dsimp only
  refine hK.out _ _ (Held.keep hfx3 hHeld3) (fun hHeld4 => ?_)
  clear hK K hHeld3
  change wpAnyH _ _ _ _ _ 13 #[true, true, true, true, true, true, true, true, true, true, true, true, true, false, false, false, false, false, false, false, false, false, false, false, false, false] { tmps := #[.agg Y, .agg X, .pointer (some ⟨w.heap.size, 0, none⟩), .pointer (some ⟨w.heap.size + 1, 0, none⟩), .bool false, .bool true, .bool true, .agg Y, .bool r, .agg Y, .agg HOLE, .bool r, .bool true, .bool true, .bool true, .agg Y, .bool q, .agg Y, undef, undef, undef, undef, undef, undef, undef, undef, undef, undef, undef, undef], defers := [] } _
  refine wpAnyH_ready (rs := [13]) (by kernel_rfl) (by simp) ?_
  refine AllReadyH.cons rfl (fun K hK => ?_) AllReadyH.nil
  simp only [List.getElem_toArray, List.getElem_cons_succ, List.getElem_cons_zero]
  refine (if_pos (by kernel_rfl)).mpr ?_
  go_wp2_with fail
  refine (HRR.out _).mono ?_
  rintro e wx4 ⟨rfl, hfx4⟩
  dsimp only
  refine hK.out _ _ (Held.keep hfx4 hHeld4) (fun hHeld5 => ?_)
  clear hK K hHeld4
  change wpAnyH _ _ _ _ _ 12 #[true, true, true, true, true, true, true, true, true, true, true, true, true, true, false, false, false, false, false, false, false, false, false, false, false, false] { tmps := #[.agg Y, .agg X, .pointer (some ⟨w.heap.size, 0, none⟩), .pointer (some ⟨w.heap.size + 1, 0, none⟩), .bool false, .bool true, .bool true, .agg Y, .bool r, .agg Y, .agg HOLE, .bool r, .bool true, .bool true, .bool true, .agg Y, .bool q, .agg Y, .bool q, undef, undef, undef, undef, undef, undef, undef, undef, undef, undef, undef], defers := [] } _
  refine wpAnyH_take (i := 14) (v := .bool true) rfl (by kernel_rfl) (by kernel_rfl) (by kernel_rfl) (fun _ _ _ h => h) (Or.inl ⟨by kernel_rfl, fun w hSw => by go_simp <;> simp⟩) hHeld5 ?_
  change wpAnyH _ _ _ _ _ 11 #[true, true, true, true, true, true, true, true, true, true, true, true, true, true, true, false, false, false, false, false, false, false, false, false, false, false] { tmps := #[.agg Y, .agg X, .pointer (some ⟨w.heap.size, 0, none⟩), .pointer (some ⟨w.heap.size + 1, 0, none⟩), .bool false, .bool true, .bool true, .agg Y, .bool r, .agg Y, .agg HOLE, .bool r, .bool true, .bool true, .bool true, .agg Y, .bool q, .agg Y, .bool q, .bool true, undef, undef, undef, undef, undef, undef, undef, undef, undef, undef], defers := [] } _
  refine wpAnyH_take (i := 15) (v := .bool true) rfl (by kernel_rfl) (by kernel_rfl) (by kernel_rfl) (fun _ _ _ h => h) (Or.inl ⟨by kernel_rfl, fun w hSw => by first | kernel_rfl | (go_simp; done)⟩) hHeld5 ?_
  change wpAnyH _ _ _ _ _ 10 #[true, true, true, true, true, true, true, true, true, true, true, true, true, true, true, true, false, false, false, false, false, false, false, false, false, false] { tmps := #[.agg Y, .agg X, .pointer (some ⟨w.heap.size, 0, none⟩), .pointer (some ⟨w.heap.size + 1, 0, none⟩), .bool false, .bool true, .bool true, .agg Y, .bool r, .agg Y, .agg HOLE, .bool r, .bool true, .bool true, .bool true, .agg Y, .bool q, .agg Y, .bool q, .bool true, .bool true, undef, undef, undef, undef, undef, undef, undef, undef, undef], defers := [] } _
  refine wpAnyH_take (i := 16) (v := .bool true) rfl (by kernel_rfl) (by kernel_rfl) (by kernel_rfl) (fun _ _ _ h => h) (Or.inl ⟨by kernel_rfl, fun w hSw => by first | kernel_rfl | (go_simp; done)⟩) hHeld5 ?_
  change wpAnyH _ _ _ _ _ 9 #[true, true, true, true, true, true, true, true, true, true, true, true, true, true, true, true, true, false, false, false, false, false, false, false, false, false] { tmps := #[.agg Y, .agg X, .pointer (some ⟨w.heap.size, 0, none⟩), .pointer (some ⟨w.heap.size + 1, 0, none⟩), .bool false, .bool true, .bool true, .agg Y, .bool r, .agg Y, .agg HOLE, .bool r, .bool true, .bool true, .bool true, .agg Y, .bool q, .agg Y, .bool q, .bool true, .bool true, .bool true, undef, undef, undef, undef, undef, undef, undef, undef], defers := [] } _
  refine wpAnyH_take (i := 17) (v := .agg Y) rfl (by kernel_rfl) (by kernel_rfl) (by kernel_rfl) (fun _ _ _ h => h) (yields_row (by kernel_rfl) 26 _ rfl (w.heap.size) rfl 26 Y (0, 0) _ (fun w h => Held.a0 h) Tryd.underlying26 rfl HIP.out) hHeld5 ?_
  change wpAnyH _ _ _ _ _ 8 #[true, true, true, true, true, true, true, true, true, true, true, true, true, true, true, true, true, true, false, false, false, false, false, false, false, false] { tmps := #[.agg Y, .agg X, .pointer (some ⟨w.heap.size, 0, none⟩), .pointer (some ⟨w.heap.size + 1, 0, none⟩), .bool false, .bool true, .bool true, .agg Y, .bool r, .agg Y, .agg HOLE, .bool r, .bool true, .bool true, .bool true, .agg Y, .bool q, .agg Y, .bool q, .bool true, .bool true, .bool true, .agg Y, undef, undef, undef, undef, undef, undef, undef], defers := [] } _
  refine wpAnyH_take (i := 18) (v := .agg X) rfl (by kernel_rfl) (by kernel_rfl) (by kernel_rfl) (fun _ _ _ h => h) (yields_row (by kernel_rfl) 22 _ rfl (w.heap.size + 1) rfl 22 X (0, 0) _ (fun w h => Held.a0 (Held.tl h)) Tryd.underlying22 rfl HIX.out) hHeld5 ?_
  change wpAnyH _ _ _ _ _ 7 #[true, true, true, true, true, true, true, true, true, true, true, true, true, true, true, true, true, true, true, false, false, false, false, false, false, false] { tmps := #[.agg Y, .agg X, .pointer (some ⟨w.heap.size, 0, none⟩), .pointer (some ⟨w.heap.size + 1, 0, none⟩), .bool false, .bool true, .bool true, .agg Y, .bool r, .agg Y, .agg HOLE, .bool r, .bool true, .bool true, .bool true, .agg Y, .bool q, .agg Y, .bool q, .bool true, .bool true, .bool true, .agg Y, .agg X, undef, undef, undef, undef, undef, undef], defers := [] } _
  refine wpAnyH_take (i := 20) (v := .agg Y) rfl (by kernel_rfl) (by kernel_rfl) (by kernel_rfl) (fun _ _ _ h => h) (yields_row (by kernel_rfl) 26 _ rfl (w.heap.size) rfl 26 Y (0, 0) _ (fun w h => Held.a0 h) Tryd.underlying26 rfl HIP.out) hHeld5 ?_
  change wpAnyH _ _ _ _ _ 6 #[true, true, true, true, true, true, true, true, true, true, true, true, true, true, true, true, true, true, true, false, true, false, false, false, false, false] { tmps := #[.agg Y, .agg X, .pointer (some ⟨w.heap.size, 0, none⟩), .pointer (some ⟨w.heap.size + 1, 0, none⟩), .bool false, .bool true, .bool true, .agg Y, .bool r, .agg Y, .agg HOLE, .bool r, .bool true, .bool true, .bool true, .agg Y, .bool q, .agg Y, .bool q, .bool true, .bool true, .bool true, .agg Y, .agg X, undef, .agg Y, undef, undef, undef, undef], defers := [] } _
  refine wpAnyH_take (i := 21) (v := .agg X) rfl (by kernel_rfl) (by kernel_rfl) (by kernel_rfl) (fun _ _ _ h => h) (yields_row (by kernel_rfl) 22 _ rfl (w.heap.size + 1) rfl 22 X (0, 0) _ (fun w h => Held.a0 (Held.tl h)) Tryd.underlying22 rfl HIX.out) hHeld5 ?_
  change wpAnyH _ _ _ _ _ 5 #[true, true, true, true, true, true, true, true, true, true, true, true, true, true, true, true, true, true, true, false, true, true, false, false, false, false] { tmps := #[.agg Y, .agg X, .pointer (some ⟨w.heap.size, 0, none⟩), .pointer (some ⟨w.heap.size + 1, 0, none⟩), .bool false, .bool true, .bool true, .agg Y, .bool r, .agg Y, .agg HOLE, .bool r, .bool true, .bool true, .bool true, .agg Y, .bool q, .agg Y, .bool q, .bool true, .bool true, .bool true, .agg Y, .agg X, undef, .agg Y, .agg X, undef, undef, undef], defers := [] } _
  refine wpAnyH_ready (rs := [19]) (by kernel_rfl) (by simp) ?_
  refine AllReadyH.cons rfl (fun K hK => ?_) AllReadyH.nil
  simp only [List.getElem_toArray, List.getElem_cons_succ, List.getElem_cons_zero]
  refine (if_pos (by kernel_rfl)).mpr ?_
  go_wp2_with fail
  refine (HFI.out _ (Held.a0 (Held.tl (Held.tl hHeld5))) (Held.a0 (Held.tl (Held.tl (Held.tl hHeld5))))).mono ?_
  rintro e wx5 ⟨rfl, hfx5⟩
  dsimp only
  refine hK.out _ _ (Held.keep hfx5 hHeld5) (fun hHeld6 => ?_)
  clear hK K hHeld5
  change wpAnyH _ _ _ _ _ 4 #[true, true, true, true, true, true, true, true, true, true, true, true, true, true, true, true, true, true, true, true, true, true, false, false, false, false] { tmps := #[.agg Y, .agg X, .pointer (some ⟨w.heap.size, 0, none⟩), .pointer (some ⟨w.heap.size + 1, 0, none⟩), .bool false, .bool true, .bool true, .agg Y, .bool r, .agg Y, .agg HOLE, .bool r, .bool true, .bool true, .bool true, .agg Y, .bool q, .agg Y, .bool q, .bool true, .bool true, .bool true, .agg Y, .agg X, .bool f, .agg Y, .agg X, undef, undef, undef], defers := [] } _
  refine wpAnyH_ready (rs := [22]) (by kernel_rfl) (by simp) ?_
  refine AllReadyH.cons rfl (fun K hK => ?_) AllReadyH.nil
  simp only [List.getElem_toArray, List.getElem_cons_succ, List.getElem_cons_zero]
  refine (if_pos (by kernel_rfl)).mpr ?_
  go_wp2_with fail
  refine (HRF.out _).mono ?_
  rintro e wx6 ⟨rfl, hfx6⟩
  dsimp only
  refine hK.out _ _ (Held.keep hfx6 hHeld6) (fun hHeld7 => ?_)
  clear hK K hHeld6
  change wpAnyH _ _ _ _ _ 3 #[true, true, true, true, true, true, true, true, true, true, true, true, true, true, true, true, true, true, true, true, true, true, true, false, false, false] { tmps := #[.agg Y, .agg X, .pointer (some ⟨w.heap.size, 0, none⟩), .pointer (some ⟨w.heap.size + 1, 0, none⟩), .bool false, .bool true, .bool true, .agg Y, .bool r, .agg Y, .agg HOLE, .bool r, .bool true, .bool true, .bool true, .agg Y, .bool q, .agg Y, .bool q, .bool true, .bool true, .bool true, .agg Y, .agg X, .bool f, .agg Y, .agg X, .bool f, undef, undef], defers := [] } _
  refine wpAnyH_take (i := 23) (v := .bool true) rfl (by kernel_rfl) (by kernel_rfl) (by kernel_rfl) (fun _ _ _ h => h) (Or.inl ⟨by kernel_rfl, fun w hSw => by go_simp <;> simp⟩) hHeld7 ?_
  change wpAnyH _ _ _ _ _ 2 #[true, true, true, true, true, true, true, true, true, true, true, true, true, true, true, true, true, true, true, true, true, true, true, true, false, false] { tmps := #[.agg Y, .agg X, .pointer (some ⟨w.heap.size, 0, none⟩), .pointer (some ⟨w.heap.size + 1, 0, none⟩), .bool false, .bool true, .bool true, .agg Y, .bool r, .agg Y, .agg HOLE, .bool r, .bool true, .bool true, .bool true, .agg Y, .bool q, .agg Y, .bool q, .bool true, .bool true, .bool true, .agg Y, .agg X, .bool f, .agg Y, .agg X, .bool f, .bool true, undef], defers := [] } _
  refine wpAnyH_take (i := 24) (v := .bool true) rfl (by kernel_rfl) (by kernel_rfl) (by kernel_rfl) (fun _ _ _ h => h) (Or.inl ⟨by kernel_rfl, fun w hSw => by first | kernel_rfl | (go_simp; done)⟩) hHeld7 ?_
  change wpAnyH _ _ _ _ _ 1 #[true, true, true, true, true, true, true, true, true, true, true, true, true, true, true, true, true, true, true, true, true, true, true, true, true, false] { tmps := #[.agg Y, .agg X, .pointer (some ⟨w.heap.size, 0, none⟩), .pointer (some ⟨w.heap.size + 1, 0, none⟩), .bool false, .bool true, .bool true, .agg Y, .bool r, .agg Y, .agg HOLE, .bool r, .bool true, .bool true, .bool true, .agg Y, .bool q, .agg Y, .bool q, .bool true, .bool true, .bool true, .agg Y, .agg X, .bool f, .agg Y, .agg X, .bool f, .bool true, .bool true], defers := [] } _
  refine wpAnyH_take (i := 25) (v := .bool true) rfl (by kernel_rfl) (by kernel_rfl) (by kernel_rfl) (fun _ _ _ h => h) (Or.inl ⟨by kernel_rfl, fun w hSw => by first | kernel_rfl | (go_simp; done)⟩) hHeld7 ?_
  change wpAnyH _ _ _ _ _ 0 #[true, true, true, true, true, true, true, true, true, true, true, true, true, true, true, true, true, true, true, true, true, true, true, true, true, true] { tmps := #[.agg Y, .agg X, .pointer (some ⟨w.heap.size, 0, none⟩), .pointer (some ⟨w.heap.size + 1, 0, none⟩), .bool true, .bool true, .bool true, .agg Y, .bool r, .agg Y, .agg HOLE, .bool r, .bool true, .bool true, .bool true, .agg Y, .bool q, .agg Y, .bool q, .bool true, .bool true, .bool true, .agg Y, .agg X, .bool f, .agg Y, .agg X, .bool f, .bool true, .bool true], defers := [] } _
  refine wpAnyH_done (by kernel_rfl) ?_ _
  refine NoPanic.normal ?_
  have HFIN := Lib.hid (Held.f hHeld7)
  have HEND := Lib.hid hHeld7
  clear hHeld7
  go_wp2_with fail
  all_goals go_ret
  exact ⟨by kernel_rfl, HFIN.out⟩

end Go.Proofs.YtjkaenhopkigdaaDoor.PtrAskLaw
