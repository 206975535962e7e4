/- The bytes of a node: the walk of the reference. -/
import Derived.Test.YtfjkbabeceaelaaInoPut
import Derived.Test.YtfjkbabeceaelaaPtrRPut
import Derived.Test.YtfjkbabeceaelaaRefWord
set_option linter.unusedVariables false
set_option linter.unusedSimpArgs false
namespace Go.Proofs.Ytfjkbabeceaelaa.InoRPut
open Go Go.RowKit Go.Proofs.Ytfjkbabeceaelaa.K Go.Proofs.Ytfjkbabeceaelaa.EqKit Go.Proofs.Ytfjkbabeceaelaa.PtrKit Go.Proofs.Ytfjkbabeceaelaa.ArrKit Go.Proofs.Ytfjkbabeceaelaa.HeldKit Go.Proofs.Ytfjkbabeceaelaa.PtrAsk Go.Proofs.Ytfjkbabeceaelaa.PtrRRight Go.Proofs.Ytfjkbabeceaelaa.ShaStep Go.Proofs.Ytfjkbabeceaelaa.ShaSum Go.Proofs.Ytfjkbabeceaelaa.PtrOf Go.Proofs.Ytfjkbabeceaelaa.PtrROf Go.Proofs.Ytfjkbabeceaelaa.WordPut Go.Proofs.Ytfjkbabeceaelaa.WordTake Go.Proofs.Ytfjkbabeceaelaa.InoKit Go.Proofs.Ytfjkbabeceaelaa.InoRRight Go.Proofs.Ytfjkbabeceaelaa.InoNew Go.Proofs.Ytfjkbabeceaelaa.InoPut Go.Proofs.Ytfjkbabeceaelaa.PtrPut

set_option maxHeartbeats 2000000 in
set_option maxRecDepth 100000 in
theorem rput_wrong (x : NV) (w : World) (hx : x.ok) (hr : nR x = false) : Calls Try.prog 14 #[.agg x.cells.toArray] w fun e w' => e = .returned (.tuple #[.agg ZB, .int .i64 1]) ∧ Fr0 w w' := by
  have hz : ∀ W, (zeroValue 22).run Try.prog W = .ok (.agg ZB) W := by intro W; kernel_rfl
  have HRI : Hid (∀ W : World, Calls Try.prog 13 #[.agg x.cells.toArray] W fun e w' => e = .returned (.bool false) ∧ Fr0 W w') := Lib.hid (fun W => by
    have := nrright_calls x W hx
    rw [hr] at this
    exact this)
  have HIN : Hid ((Try.prog.info? 30).map (·.size) = some x.cells.toArray.size) := Lib.hid (by rw [info_n, List.size_toArray, NV.cells_length hx])
  generalize x.cells.toArray = X at *
  have hs1 : (w.alloc (.cells X 30)).heap.size = w.heap.size + 1 := by simp
  have hs2 : ((w.alloc (.cells X 30)).alloc (.cells ZB 22)).heap.size = w.heap.size + 1 + 1 := by simp
  have HN : Hid (Bk (((w.alloc (.cells X 30)).alloc (.cells ZB 22)).alloc (.cells ZB 22)) w.heap.size X 30) := Lib.hid (Bk.alloc (Bk.alloc (Bk.new w _) _) _)
  have HR : Hid (Bk (((w.alloc (.cells X 30)).alloc (.cells ZB 22)).alloc (.cells ZB 22)) (w.heap.size + 1) ZB 22) := Lib.hid (Bk.alloc (by have := Bk.new (w.alloc (.cells X 30)) (.cells ZB 22); rwa [hs1] at this) _)
  have HG : Hid (Bk (((w.alloc (.cells X 30)).alloc (.cells ZB 22)).alloc (.cells ZB 22)) (w.heap.size + 1 + 1) ZB 22) := Lib.hid (by have := Bk.new ((w.alloc (.cells X 30)).alloc (.cells ZB 22)) (.cells ZB 22); rwa [hs2] at this)
  have HF : Hid (Fr0 w (((w.alloc (.cells X 30)).alloc (.cells ZB 22)).alloc (.cells ZB 22))) := Lib.hid (Fr.alloc (Fr.alloc (Fr.alloc (Fr.refl _ _) _) _) _)
  clear hs1 hs2
  go_enter Try.func14, Try.ntmps14
  go_wp2_with (first | ((with_reducible show wpList _ _ _ ({ dst := _, op := Op.load 30 _, type := _, pos := _, after := _, guard := _ } :: _) _ _); refine wpList_load_row rfl 30 _ rfl w.heap.size rfl 30 X (0, 0) _ HN.out Try.underlying30 rfl HIN.out ?_) | (go_at_call 13; (with_reducible refine (HRI.out _).mono ?_); rintro e w2 ⟨rfl, hf2⟩; have HG2 := Lib.hid (hf2.keep HG.out (fun h => h)); have HR2 := Lib.hid (hf2.keep HR.out (fun h => h)); have HF2 := Lib.hid (HF.out.then0 hf2); clear hf2) | ((with_reducible show wpList _ _ _ ({ dst := _, op := Op.load 22 _, type := _, pos := _, after := _, guard := _ } :: _) _ _); refine wpList_load_row rfl 22 _ rfl (w.heap.size + 1 + 1) rfl 22 ZB (0, 0) _ HG2.out Try.underlying22 rfl infoB ?_) | ((with_reducible show wpList _ _ _ ({ dst := _, op := Op.store 22 _ _, type := _, pos := _, after := _, guard := _ } :: _) _ _); refine wpList_store_row rfl 22 _ _ rfl (w.heap.size + 1) ZB rfl rfl 22 ZB HR2.out infoB rfl ZB_one ?_))
  refine fin_ct (w.heap.size + 1) 22 ZB (.int .i64 1) (by rfl) (by rfl) (by rfl) (by rfl) Try.underlying22 (by rfl) infoB (ArrKit.Bk.row HR2.out _) ?_
  exact ⟨rfl, ArrKit.Fr.row HF2.out _ _ (.inl (by omega))⟩

theorem cell_some {w : World} {g : Nat} {cs : Array Value} {t : TypeId} (h : Bk w g cs t) (i : Nat) (hs : cs.size = 64) (hi : i < 64) : ∃ u, w.cell? ⟨g, i, none⟩ = some u := ⟨_, (h.cell i).trans (Array.getElem?_eq_getElem (by omega))⟩
set_option maxHeartbeats 2000000 in
set_option maxRecDepth 100000 in
theorem rput_right (x : NV) (w : World) (hx : x.ok) (hr : nR x = true) : Calls Try.prog 14 #[.agg x.cells.toArray] w fun e w' => e = .returned (.tuple #[.agg ((nodeB x).map B).toArray, .int .i64 0]) ∧ Fr0 w w' := by
  have hz : ∀ W, (zeroValue 22).run Try.prog W = .ok (.agg ZB) W := by intro W; kernel_rfl
  have HRI : Hid (∀ W : World, Calls Try.prog 13 #[.agg x.cells.toArray] W fun e w' => e = .returned (.bool true) ∧ Fr0 W w') := Lib.hid (fun W => by
    have := nrright_calls x W hx
    rw [hr] at this
    exact this)
  have HIN : Hid ((Try.prog.info? 30).map (·.size) = some x.cells.toArray.size) := Lib.hid (by rw [info_n, List.size_toArray, NV.cells_length hx])
  have HX := Lib.hid hx
  have HRB := Lib.hid hr
  generalize hX : x.cells.toArray = X at *
  have HXX := Lib.hid hX
  clear hx hr hX
  have hbd := bounds_of HRB.out
  have hk0 := hbd.1
  have hk1 := hbd.2.1
  have hl0 := hbd.2.2.1
  have hl1 := hbd.2.2.2.1
  have hc0 := hbd.2.2.2.2.1
  have hc1 := hbd.2.2.2.2.2
  clear hbd
  have hs1 : (w.alloc (.cells X 30)).heap.size = w.heap.size + 1 := by simp
  have hs2 : ((w.alloc (.cells X 30)).alloc (.cells ZB 22)).heap.size = w.heap.size + 1 + 1 := by simp
  have HN : Hid (Bk (((w.alloc (.cells X 30)).alloc (.cells ZB 22)).alloc (.cells ZB 22)) w.heap.size X 30) := Lib.hid (Bk.alloc (Bk.alloc (Bk.new w _) _) _)
  have HR : Hid (Bk (((w.alloc (.cells X 30)).alloc (.cells ZB 22)).alloc (.cells ZB 22)) (w.heap.size + 1) ZB 22) := Lib.hid (Bk.alloc (by have := Bk.new (w.alloc (.cells X 30)) (.cells ZB 22); rwa [hs1] at this) _)
  have HG : Hid (Bk (((w.alloc (.cells X 30)).alloc (.cells ZB 22)).alloc (.cells ZB 22)) (w.heap.size + 1 + 1) ZB 22) := Lib.hid (by have := Bk.new ((w.alloc (.cells X 30)).alloc (.cells ZB 22)) (.cells ZB 22); rwa [hs2] at this)
  have HF : Hid (Fr0 w (((w.alloc (.cells X 30)).alloc (.cells ZB 22)).alloc (.cells ZB 22))) := Lib.hid (Fr.alloc (Fr.alloc (Fr.alloc (Fr.refl _ _) _) _) _)
  clear hs1 hs2
  have hGR : w.heap.size + 1 + 1 ≠ w.heap.size + 1 := by omega
  have hGX : w.heap.size + 1 + 1 ≠ w.heap.size := by omega
  have hwR : w.heap.size ≤ w.heap.size + 1 := by omega
  have hwG : w.heap.size ≤ w.heap.size + 1 + 1 := by omega
  go_enter Try.func14, Try.ntmps14
  go_wp2_with (first | ((with_reducible show wpList _ _ _ ({ dst := _, op := Op.load 30 _, type := _, pos := _, after := _, guard := _ } :: _) _ _); refine wpList_load_row rfl 30 _ rfl w.heap.size rfl 30 X (0, 0) _ HN.out Try.underlying30 rfl HIN.out ?_) | (go_at_call 13; (with_reducible refine (HRI.out _).mono ?_); rintro e w2 ⟨rfl, hf2⟩; have HX2 := Lib.hid (hf2.keep HN.out (fun h => h)); have hh := Has.of HX.out (by rw [HXX.out]; exact HX2.out : Bk w2 w.heap.size x.cells.toArray 30); have q1 := hh.kind; have q2 := hh.links; have q4 := hh.cps; have HG2 := Lib.hid (hf2.keep HG.out (fun h => h)); have HR2 := Lib.hid (hf2.keep HR.out (fun h => h)); have HF2 := Lib.hid (HF.out.then0 hf2); clear hf2 hh))
  have H3 : Hid (Held w [(w.heap.size, .cells X 30 (0, 0)), (w.heap.size + 1, .cells ZB 22 (0, 0))] w2) := Lib.hid (Held.cons HX2.out (Held.cons HR2.out (Held.nil HF2.out)))
  have HG3 : Hid (Bk w2.drew (w.heap.size + 1 + 1) ZB 22) := Lib.hid HG2.out
  have HC1 : Hid (X[1]? = some (.int .i64 x.kind)) := Lib.hid (by rw [← HXX.out]; rfl)
  have HC2 : Hid (X[2]? = some (.int .i64 x.links)) := Lib.hid (by rw [← HXX.out]; rfl)
  have HC38 : Hid (X[38]? = some (.int .i64 x.cps)) := Lib.hid (by rw [← HXX.out]; exact cells_cps HX.out)
  clear q1 q2 q4 HX2 HR2 HF2 HG2
  refine wp_region_noPanic ?_
  refine wp_region_held_drew (S := (Held w [(w.heap.size, .cells X 30 (0, 0)), (w.heap.size + 1, .cells ZB 22 (0, 0))])) (by kernel_rfl) (Held.drew H3.out) (fun hHeld0 => ?_)
  generalize w2.drew = wd at *
  change wpAnyH _ _ _ _ _ 16 #[false, false, false, false, false, false, false, false, false, false, false, false, false, false, false, false] _ _
  refine wpAnyH_take (i := 0) (v := .pointer (some ⟨w.heap.size, 1, none⟩)) rfl (by kernel_rfl) (by kernel_rfl) (by kernel_rfl) (fun _ _ _ h => h) (Or.inl ⟨by kernel_rfl, fun w hSw => by first | kernel_rfl | (go_simp; done)⟩) hHeld0 ?_
  simp only [Act.put, List.getElem_toArray, List.getElem_cons_succ, List.getElem_cons_zero, List.setIfInBounds_toArray, List.set_cons_zero, List.set_cons_succ]
  change wpAnyH _ _ _ _ _ 15 #[true, false, false, false, false, false, false, false, false, false, false, false, false, false, false, false] _ _
  refine wpAnyH_take (i := 1) (v := .int .i64 x.kind) rfl (by kernel_rfl) (by kernel_rfl) (by kernel_rfl) (fun _ _ _ h => h) (Or.inl ⟨by kernel_rfl, fun w hSw => by have hcl := (fun w h => (Bk.cell (Held.a0 h) 1).trans HC1.out) w hSw; go_simp⟩) hHeld0 ?_
  simp only [Act.put, List.getElem_toArray, List.getElem_cons_succ, List.getElem_cons_zero, List.setIfInBounds_toArray, List.set_cons_zero, List.set_cons_succ]
  change wpAnyH _ _ _ _ _ 14 #[true, true, false, false, false, false, false, false, false, false, false, false, false, false, false, false] _ _
  refine wpAnyH_take (i := 2) (v := .int .u8 (x.kind)) rfl (by kernel_rfl) (by kernel_rfl) (by kernel_rfl) (fun _ _ _ h => h) (Or.inl ⟨by kernel_rfl, fun w hSw => by go_simp <;> exact IntWalk.u8_in _ (by omega)⟩) hHeld0 ?_
  simp only [Act.put, List.getElem_toArray, List.getElem_cons_succ, List.getElem_cons_zero, List.setIfInBounds_toArray, List.set_cons_zero, List.set_cons_succ]
  change wpAnyH _ _ _ _ _ 13 #[true, true, true, false, false, false, false, false, false, false, false, false, false, false, false, false] _ _
  refine wpAnyH_take (i := 3) (v := .pointer (some ⟨w.heap.size, 2, none⟩)) rfl (by kernel_rfl) (by kernel_rfl) (by kernel_rfl) (fun _ _ _ h => h) (Or.inl ⟨by kernel_rfl, fun w hSw => by first | kernel_rfl | (go_simp; done)⟩) hHeld0 ?_
  simp only [Act.put, List.getElem_toArray, List.getElem_cons_succ, List.getElem_cons_zero, List.setIfInBounds_toArray, List.set_cons_zero, List.set_cons_succ]
  change wpAnyH _ _ _ _ _ 12 #[true, true, true, true, false, false, false, false, false, false, false, false, false, false, false, false] _ _
  refine wpAnyH_take (i := 4) (v := .int .i64 x.links) rfl (by kernel_rfl) (by kernel_rfl) (by kernel_rfl) (fun _ _ _ h => h) (Or.inl ⟨by kernel_rfl, fun w hSw => by have hcl := (fun w h => (Bk.cell (Held.a0 h) 2).trans HC2.out) w hSw; go_simp⟩) hHeld0 ?_
  simp only [Act.put, List.getElem_toArray, List.getElem_cons_succ, List.getElem_cons_zero, List.setIfInBounds_toArray, List.set_cons_zero, List.set_cons_succ]
  change wpAnyH _ _ _ _ _ 11 #[true, true, true, true, true, false, false, false, false, false, false, false, false, false, false, false] _ _
  refine wpAnyH_take (i := 5) (v := .int .u8 (x.links)) rfl (by kernel_rfl) (by kernel_rfl) (by kernel_rfl) (fun _ _ _ h => h) (Or.inl ⟨by kernel_rfl, fun w hSw => by go_simp <;> exact IntWalk.u8_in _ (by omega)⟩) hHeld0 ?_
  simp only [Act.put, List.getElem_toArray, List.getElem_cons_succ, List.getElem_cons_zero, List.setIfInBounds_toArray, List.set_cons_zero, List.set_cons_succ]
  change wpAnyH _ _ _ _ _ 10 #[true, true, true, true, true, true, false, false, false, false, false, false, false, false, false, false] _ _
  refine wpAnyH_take (i := 6) (v := .pointer (some ⟨w.heap.size, 3, none⟩)) rfl (by kernel_rfl) (by kernel_rfl) (by kernel_rfl) (fun _ _ _ h => h) (Or.inl ⟨by kernel_rfl, fun w hSw => by first | kernel_rfl | (go_simp; done)⟩) hHeld0 ?_
  simp only [Act.put, List.getElem_toArray, List.getElem_cons_succ, List.getElem_cons_zero, List.setIfInBounds_toArray, List.set_cons_zero, List.set_cons_succ]
  change wpAnyH _ _ _ _ _ 9 #[true, true, true, true, true, true, true, false, false, false, false, false, false, false, false, false] _ _
  refine wpAnyH_take (i := 7) (v := .pointer (some ⟨w.heap.size, 38, none⟩)) rfl (by kernel_rfl) (by kernel_rfl) (by kernel_rfl) (fun _ _ _ h => h) (Or.inl ⟨by kernel_rfl, fun w hSw => by first | kernel_rfl | (go_simp; done)⟩) hHeld0 ?_
  simp only [Act.put, List.getElem_toArray, List.getElem_cons_succ, List.getElem_cons_zero, List.setIfInBounds_toArray, List.set_cons_zero, List.set_cons_succ]
  change wpAnyH _ _ _ _ _ 8 #[true, true, true, true, true, true, true, true, false, false, false, false, false, false, false, false] _ _
  refine wpAnyH_take (i := 8) (v := .int .i64 x.cps) rfl (by kernel_rfl) (by kernel_rfl) (by kernel_rfl) (fun _ _ _ h => h) (Or.inl ⟨by kernel_rfl, fun w hSw => by have hcl := (fun w h => (Bk.cell (Held.a0 h) 38).trans HC38.out) w hSw; go_simp⟩) hHeld0 ?_
  simp only [Act.put, List.getElem_toArray, List.getElem_cons_succ, List.getElem_cons_zero, List.setIfInBounds_toArray, List.set_cons_zero, List.set_cons_succ]
  change wpAnyH _ _ _ _ _ 7 #[true, true, true, true, true, true, true, true, true, false, false, false, false, false, false, false] _ _
  refine wpAnyH_take (i := 9) (v := .int .u8 (x.cps)) rfl (by kernel_rfl) (by kernel_rfl) (by kernel_rfl) (fun _ _ _ h => h) (Or.inl ⟨by kernel_rfl, fun w hSw => by go_simp <;> exact IntWalk.u8_in _ (by omega)⟩) hHeld0 ?_
  simp only [Act.put, List.getElem_toArray, List.getElem_cons_succ, List.getElem_cons_zero, List.setIfInBounds_toArray, List.set_cons_zero, List.set_cons_succ]
  change wpAnyH _ _ _ _ _ 6 #[true, true, true, true, true, true, true, true, true, true, false, false, false, false, false, false] _ _
  refine wpAnyH_take (i := 10) (v := .pointer (some ⟨w.heap.size + 1 + 1, 0, none⟩)) rfl (by kernel_rfl) (by kernel_rfl) (by kernel_rfl) (fun _ _ _ h => h) (Or.inl ⟨by kernel_rfl, fun w hSw => by first | kernel_rfl | (go_simp; done)⟩) hHeld0 ?_
  simp only [Act.put, List.getElem_toArray, List.getElem_cons_succ, List.getElem_cons_zero, List.setIfInBounds_toArray, List.set_cons_zero, List.set_cons_succ]
  change wpAnyH _ _ _ _ _ 5 #[true, true, true, true, true, true, true, true, true, true, true, false, false, false, false, false] _ _
  refine wpAnyH_ready (rs := [11]) (by kernel_rfl) (by simp) ?_
  refine AllReadyH.cons rfl (fun K hK => ?_) AllReadyH.nil
  simp only [List.getElem_toArray, List.getElem_cons_succ, List.getElem_cons_zero]
  refine (if_pos (by kernel_rfl)).mpr ?_
  obtain ⟨u0, hu0⟩ : ∃ u, World.cell? _ ⟨w.heap.size + 1 + 1, 0, none⟩ = some u := cell_some HG3.out 0 (by simp [ZB, Z64]) (by decide)
  have hf0 := Bk.free HG3.out 0
  go_wp2_with fail
  clear hu0 hf0
  have HG4 := Lib.hid (Bk.set HG3.out 0 (.int .u8 (x.kind)))
  refine hK.out _ _ (Held.pastG hHeld0 (Fr.set (Fr.refl (fun i => i = w.heap.size + 1 + 1) _) ⟨w.heap.size + 1 + 1, 0, none⟩ (.int .u8 (x.kind)) (.inr rfl)) (fun r hr => by simp only [List.mem_cons, List.not_mem_nil, or_false] at hr; rcases hr with rfl | rfl; exact Ne.symm hGX; exact Ne.symm hGR) hwG) (fun hHeld1 => ?_)
  clear hK K hHeld0
  generalize (wd.setCell ⟨w.heap.size + 1 + 1, 0, none⟩ (.int .u8 (x.kind))) = wy0 at *
  change wpAnyH _ _ _ _ _ 4 #[true, true, true, true, true, true, true, true, true, true, true, true, false, false, false, false] _ _
  refine wpAnyH_take (i := 12) (v := .pointer (some ⟨w.heap.size + 1 + 1, 1, none⟩)) rfl (by kernel_rfl) (by kernel_rfl) (by kernel_rfl) (fun _ _ _ h => h) (Or.inl ⟨by kernel_rfl, fun w hSw => by first | kernel_rfl | (go_simp; done)⟩) hHeld1 ?_
  simp only [Act.put, List.getElem_toArray, List.getElem_cons_succ, List.getElem_cons_zero, List.setIfInBounds_toArray, List.set_cons_zero, List.set_cons_succ]
  change wpAnyH _ _ _ _ _ 3 #[true, true, true, true, true, true, true, true, true, true, true, true, true, false, false, false] _ _
  refine wpAnyH_ready (rs := [13]) (by kernel_rfl) (by simp) ?_
  refine AllReadyH.cons rfl (fun K hK => ?_) AllReadyH.nil
  simp only [List.getElem_toArray, List.getElem_cons_succ, List.getElem_cons_zero]
  refine (if_pos (by kernel_rfl)).mpr ?_
  obtain ⟨u1, hu1⟩ : ∃ u, World.cell? _ ⟨w.heap.size + 1 + 1, 1, none⟩ = some u := cell_some HG4.out 1 (by simp [ZB, Z64]) (by decide)
  have hf1 := Bk.free HG4.out 1
  go_wp2_with fail
  clear hu1 hf1
  have HG5 := Lib.hid (Bk.set HG4.out 1 (.int .u8 (x.links)))
  refine hK.out _ _ (Held.pastG hHeld1 (Fr.set (Fr.refl (fun i => i = w.heap.size + 1 + 1) _) ⟨w.heap.size + 1 + 1, 1, none⟩ (.int .u8 (x.links)) (.inr rfl)) (fun r hr => by simp only [List.mem_cons, List.not_mem_nil, or_false] at hr; rcases hr with rfl | rfl; exact Ne.symm hGX; exact Ne.symm hGR) hwG) (fun hHeld2 => ?_)
  clear hK K hHeld1
  generalize (wy0.setCell ⟨w.heap.size + 1 + 1, 1, none⟩ (.int .u8 (x.links))) = wy1 at *
  change wpAnyH _ _ _ _ _ 2 #[true, true, true, true, true, true, true, true, true, true, true, true, true, true, false, false] _ _
  refine wpAnyH_take (i := 14) (v := .pointer (some ⟨w.heap.size + 1 + 1, 2, none⟩)) rfl (by kernel_rfl) (by kernel_rfl) (by kernel_rfl) (fun _ _ _ h => h) (Or.inl ⟨by kernel_rfl, fun w hSw => by first | kernel_rfl | (go_simp; done)⟩) hHeld2 ?_
  simp only [Act.put, List.getElem_toArray, List.getElem_cons_succ, List.getElem_cons_zero, List.setIfInBounds_toArray, List.set_cons_zero, List.set_cons_succ]
  change wpAnyH _ _ _ _ _ 1 #[true, true, true, true, true, true, true, true, true, true, true, true, true, true, true, false] _ _
  refine wpAnyH_ready (rs := [15]) (by kernel_rfl) (by simp) ?_
  refine AllReadyH.cons rfl (fun K hK => ?_) AllReadyH.nil
  simp only [List.getElem_toArray, List.getElem_cons_succ, List.getElem_cons_zero]
  refine (if_pos (by kernel_rfl)).mpr ?_
  obtain ⟨u2, hu2⟩ : ∃ u, World.cell? _ ⟨w.heap.size + 1 + 1, 2, none⟩ = some u := cell_some HG5.out 2 (by simp [ZB, Z64]) (by decide)
  have hf2 := Bk.free HG5.out 2
  go_wp2_with fail
  clear hu2 hf2
  have HG6 := Lib.hid (Bk.set HG5.out 2 (.int .u8 (x.cps)))
  refine hK.out _ _ (Held.pastG hHeld2 (Fr.set (Fr.refl (fun i => i = w.heap.size + 1 + 1) _) ⟨w.heap.size + 1 + 1, 2, none⟩ (.int .u8 (x.cps)) (.inr rfl)) (fun r hr => by simp only [List.mem_cons, List.not_mem_nil, or_false] at hr; rcases hr with rfl | rfl; exact Ne.symm hGX; exact Ne.symm hGR) hwG) (fun hHeld3 => ?_)
  clear hK K hHeld2
  generalize (wy1.setCell ⟨w.heap.size + 1 + 1, 2, none⟩ (.int .u8 (x.cps))) = wy2 at *
  change wpAnyH _ _ _ _ _ 0 #[true, true, true, true, true, true, true, true, true, true, true, true, true, true, true, true] _ _
  refine wpAnyH_done (by kernel_rfl) ?_ _
  refine NoPanic.normal ?_
  have HFIN := Lib.hid (Held.f hHeld3)
  have HEND := Lib.hid hHeld3
  clear hHeld3
  obtain ⟨sn, hsn⟩ : ∃ sn : Nat, x.size = (sn : Int) := ⟨x.size.toNat, by have := size_of HRB.out; omega⟩
  have hsn2 : sn ≤ 8192 := by have := size_of HRB.out; omega
  have HC37 : Hid (X[37]? = some (.int .i64 (sn : Int))) := Lib.hid (by rw [← HXX.out, ← hsn]; exact cells_size HX.out)
  have HSN := Lib.hid hsn
  have HWP : Hid (∀ W : World, Bk W (w.heap.size + 1 + 1) (C3 x.kind x.links x.cps) 22 → Calls Try.prog 29 #[.slice (some ⟨w.heap.size + 1 + 1, 0, none⟩) 64 64, .int .i64 4, .int .i64 4, .int .i64 (sn : Int)] W (PutPost (w.heap.size + 1 + 1) (C3 x.kind x.links x.cps) 22 (0 + 4) (le sn 4) W 0)) := Lib.hid (fun W h => RefWord.put_ok (w.heap.size + 1 + 1) 0 64 64 4 4 sn _ 22 W h (by omega) (by omega) (by omega) (by rw [C3_size]; omega) (by omega) (by omega) (by refine ⟨by omega, by omega, by omega, fun _ => ?_⟩; show ((sn : Nat) : Int) / 2 ^ 32 ≤ 0; omega))
  have HG7 : Hid (Bk wy2 (w.heap.size + 1 + 1) (C3 x.kind x.links x.cps) 22) := HG6
  have HG9 : Hid (Bk wy2.drew (w.heap.size + 1 + 1) (C3 x.kind x.links x.cps) 22) := Lib.hid HG7.out
  have H8 : Hid (Held w [(w.heap.size, .cells X 30 (0, 0)), (w.heap.size + 1, .cells ZB 22 (0, 0))] wy2) := HEND
  clear hsn HG3 HG4 HG5 HG6 HG7 HEND HFIN HC1 HC2 HC38 hk0 hk1 hl0 hl1 hc0 hc1
  go_wp2_with fail
  refine wp_region_noPanic ?_
  refine wp_region_held_drew (S := (Held w [(w.heap.size, .cells X 30 (0, 0)), (w.heap.size + 1, .cells ZB 22 (0, 0))])) (by kernel_rfl) (Held.drew H8.out) (fun hHeld0 => ?_)
  change wpAnyH _ _ _ _ _ 5 #[false, false, false, false, false] _ _
  refine wpAnyH_take (i := 0) (v := .slice (some ⟨w.heap.size + 1 + 1, 0, none⟩) 64 64) rfl (by kernel_rfl) (by kernel_rfl) (by kernel_rfl) (fun _ _ _ h => h) (Or.inl ⟨by kernel_rfl, fun w hSw => by kernel_rfl⟩) hHeld0 ?_
  simp only [Act.put, List.getElem_toArray, List.getElem_cons_succ, List.getElem_cons_zero, List.setIfInBounds_toArray, List.set_cons_zero, List.set_cons_succ]
  change wpAnyH _ _ _ _ _ 4 #[true, false, false, false, false] _ _
  refine wpAnyH_take (i := 1) (v := .pointer (some ⟨w.heap.size, 3, none⟩)) rfl (by kernel_rfl) (by kernel_rfl) (by kernel_rfl) (fun _ _ _ h => h) (Or.inl ⟨by kernel_rfl, fun w hSw => by first | kernel_rfl | (go_simp; done)⟩) hHeld0 ?_
  simp only [Act.put, List.getElem_toArray, List.getElem_cons_succ, List.getElem_cons_zero, List.setIfInBounds_toArray, List.set_cons_zero, List.set_cons_succ]
  change wpAnyH _ _ _ _ _ 3 #[true, true, false, false, false] _ _
  refine wpAnyH_take (i := 2) (v := .pointer (some ⟨w.heap.size, 37, none⟩)) rfl (by kernel_rfl) (by kernel_rfl) (by kernel_rfl) (fun _ _ _ h => h) (Or.inl ⟨by kernel_rfl, fun w hSw => by first | kernel_rfl | (go_simp; done)⟩) hHeld0 ?_
  simp only [Act.put, List.getElem_toArray, List.getElem_cons_succ, List.getElem_cons_zero, List.setIfInBounds_toArray, List.set_cons_zero, List.set_cons_succ]
  change wpAnyH _ _ _ _ _ 2 #[true, true, true, false, false] _ _
  refine wpAnyH_take (i := 3) (v := .int .i64 (sn : Int)) rfl (by kernel_rfl) (by kernel_rfl) (by kernel_rfl) (fun _ _ _ h => h) (Or.inl ⟨by kernel_rfl, fun w hSw => by have hcl := (fun w h => (Bk.cell (Held.a0 h) 37).trans HC37.out) w hSw; go_simp⟩) hHeld0 ?_
  simp only [Act.put, List.getElem_toArray, List.getElem_cons_succ, List.getElem_cons_zero, List.setIfInBounds_toArray, List.set_cons_zero, List.set_cons_succ]
  change wpAnyH _ _ _ _ _ 1 #[true, true, true, true, false] _ _
  refine wpAnyH_ready (rs := [4]) (by kernel_rfl) (by simp) ?_
  refine AllReadyH.cons rfl (fun K hK => ?_) AllReadyH.nil
  simp only [List.getElem_toArray, List.getElem_cons_succ, List.getElem_cons_zero]
  refine (if_pos (by kernel_rfl)).mpr ?_
  go_wp2_with fail
  refine (HWP.out _ HG9.out).mono ?_
  rintro e wx0 ⟨rfl, hgx, hfx0⟩
  dsimp only
  have HG10 := Lib.hid hgx
  clear hgx
  refine hK.out _ _ (Held.pastG hHeld0 hfx0 (fun r hr => by simp only [List.mem_cons, List.not_mem_nil, or_false] at hr; rcases hr with rfl | rfl; exact Ne.symm hGX; exact Ne.symm hGR) hwG) (fun hHeld1 => ?_)
  clear hK K hHeld0
  change wpAnyH _ _ _ _ _ 0 #[true, true, true, true, true] _ _
  refine wpAnyH_done (by kernel_rfl) ?_ _
  refine NoPanic.normal ?_
  have HFIN := Lib.hid (Held.f hHeld1)
  have HEND := Lib.hid hHeld1
  clear hHeld1
  have HV : Hid x.root.ok := Lib.hid HX.out.root
  have HRRr : Hid (x.root.right = true) := Lib.hid (root_of HRB.out)
  have HPP : Hid (∀ (W : World) (cs : Array Value), Bk W (w.heap.size + 1 + 1) cs 22 → cs.size = 64 → Calls Try.prog 30 #[.slice (some ⟨w.heap.size + 1 + 1, 0, none⟩) 64 64, .int .i64 8, .agg x.root.pc.toArray] W fun e w' => e = .returned (.int .i64 0) ∧ Bk w' (w.heap.size + 1 + 1) (lay cs (0 + 8) (x.root.by.map B)) 22 ∧ Fr (· = w.heap.size + 1 + 1) W w') := Lib.hid (fun W cs h hz => PtrRPut.rput_fits (w.heap.size + 1 + 1) 0 64 64 8 x.root.a x.root.b x.root.s cs 22 W HV.out.len h (by omega) (by omega) (by omega) (by omega) (by omega) HRRr.out)
  have HIRp : Hid ((Try.prog.info? 26).map (·.size) = some x.root.pc.length) := Lib.hid (by rw [info_p, pc_length HV.out])
  have HXR : Hid (∀ W : World, W.heap[w.heap.size]? = some (.cells X 30 (0, 0)) → W.rangeAt w.heap.size 3 x.root.pc) := Lib.hid (fun W h j u hj => by
    rw [Bk.cell h, ← HXX.out]
    exact cells_root HX.out j u hj)
  have HG11 : Hid (Bk wx0.drew (w.heap.size + 1 + 1) (lay (C3 x.kind x.links x.cps) (0 + 4) ((le sn 4).map B)) 22) := Lib.hid HG10.out
  have H9 : Hid (Held w [(w.heap.size, .cells X 30 (0, 0)), (w.heap.size + 1, .cells ZB 22 (0, 0))] wx0) := HEND
  clear HWP HFIN HEND
  go_wp2_with fail
  refine wp_region_noPanic ?_
  refine wp_region_held_drew (S := (Held w [(w.heap.size, .cells X 30 (0, 0)), (w.heap.size + 1, .cells ZB 22 (0, 0))])) (by kernel_rfl) (Held.drew H9.out) (fun hHeld0 => ?_)
  change wpAnyH _ _ _ _ _ 5 #[false, false, false, false, false] _ _
  refine wpAnyH_take (i := 0) (v := .slice (some ⟨w.heap.size + 1 + 1, 0, none⟩) 64 64) rfl (by kernel_rfl) (by kernel_rfl) (by kernel_rfl) (fun _ _ _ h => h) (Or.inl ⟨by kernel_rfl, fun w hSw => by kernel_rfl⟩) hHeld0 ?_
  simp only [Act.put, List.getElem_toArray, List.getElem_cons_succ, List.getElem_cons_zero, List.setIfInBounds_toArray, List.set_cons_zero, List.set_cons_succ]
  change wpAnyH _ _ _ _ _ 4 #[true, false, false, false, false] _ _
  refine wpAnyH_take (i := 1) (v := .pointer (some ⟨w.heap.size, 3, none⟩)) rfl (by kernel_rfl) (by kernel_rfl) (by kernel_rfl) (fun _ _ _ h => h) (Or.inl ⟨by kernel_rfl, fun w hSw => by first | kernel_rfl | (go_simp; done)⟩) hHeld0 ?_
  simp only [Act.put, List.getElem_toArray, List.getElem_cons_succ, List.getElem_cons_zero, List.setIfInBounds_toArray, List.set_cons_zero, List.set_cons_succ]
  change wpAnyH _ _ _ _ _ 3 #[true, true, false, false, false] _ _
  refine wpAnyH_take (i := 2) (v := .pointer (some ⟨w.heap.size, 3, none⟩)) rfl (by kernel_rfl) (by kernel_rfl) (by kernel_rfl) (fun _ _ _ h => h) (Or.inl ⟨by kernel_rfl, fun w hSw => by first | kernel_rfl | (go_simp; done)⟩) hHeld0 ?_
  simp only [Act.put, List.getElem_toArray, List.getElem_cons_succ, List.getElem_cons_zero, List.setIfInBounds_toArray, List.set_cons_zero, List.set_cons_succ]
  change wpAnyH _ _ _ _ _ 2 #[true, true, true, false, false] _ _
  refine wpAnyH_take (i := 3) (v := .agg x.root.pc.toArray) rfl (by kernel_rfl) (by kernel_rfl) (by kernel_rfl) (fun _ _ _ h => h) (yieldsIf_load_mid (by kernel_rfl) 26 _ rfl w.heap.size 3 rfl x.root.pc _ (fun W h => HXR.out W (Held.a0 h)) Try.underlying26 rfl HIRp.out) hHeld0 ?_
  simp only [Act.put, List.getElem_toArray, List.getElem_cons_succ, List.getElem_cons_zero, List.setIfInBounds_toArray, List.set_cons_zero, List.set_cons_succ]
  change wpAnyH _ _ _ _ _ 1 #[true, true, true, true, false] _ _
  refine wpAnyH_ready (rs := [4]) (by kernel_rfl) (by simp) ?_
  refine AllReadyH.cons rfl (fun K hK => ?_) AllReadyH.nil
  simp only [List.getElem_toArray, List.getElem_cons_succ, List.getElem_cons_zero]
  refine (if_pos (by kernel_rfl)).mpr ?_
  go_wp2_with fail
  refine (HPP.out _ _ HG11.out (by rw [lay_size, C3_size])).mono ?_
  rintro e wx0 ⟨rfl, hgx, hfx0⟩
  dsimp only
  have HG12 := Lib.hid hgx
  clear hgx
  refine hK.out _ _ (Held.pastG hHeld0 hfx0 (fun r hr => by simp only [List.mem_cons, List.not_mem_nil, or_false] at hr; rcases hr with rfl | rfl; exact Ne.symm hGX; exact Ne.symm hGR) hwG) (fun hHeld1 => ?_)
  clear hK K hHeld0
  change wpAnyH _ _ _ _ _ 0 #[true, true, true, true, true] _ _
  refine wpAnyH_done (by kernel_rfl) ?_ _
  refine NoPanic.normal ?_
  have HFIN := Lib.hid (Held.f hHeld1)
  have HEND := Lib.hid hHeld1
  clear hHeld1
  have HGF : Hid (Bk wx0 (w.heap.size + 1 + 1) ((nodeB x).map B).toArray 22) := Lib.hid (by
    have := HG12.out
    rw [lay_nodeB HRB.out HSN.out HX.out] at this
    exact this)
  have HRF := Lib.hid (Held.a0 (Held.tl HEND.out))
  have HIB : Hid ((Try.prog.info? 22).map (·.size) = some ((nodeB x).map B).toArray.size) := Lib.hid (by rw [infoB, List.size_toArray, List.length_map, nodeB_length HX.out])
  have HZB : Hid (ZB.size = ((nodeB x).map B).toArray.size) := Lib.hid ((show ZB.size = 64 by simp [ZB, Z64]).trans (by rw [List.size_toArray, List.length_map, nodeB_length HX.out]))
  have HOB : Hid (((nodeB x).map B).toArray.all (·.oneCell') = true) := Lib.hid (by simp [B, Value.oneCell'])
  go_wp2_with (first | ((with_reducible show wpList _ _ _ ({ dst := _, op := Op.load 22 _, type := _, pos := _, after := _, guard := _ } :: _) _ _); refine wpList_load_row rfl 22 _ rfl (w.heap.size + 1 + 1) rfl 22 ((nodeB x).map B).toArray (0, 0) _ HGF.out Try.underlying22 rfl HIB.out ?_) | ((with_reducible show wpList _ _ _ ({ dst := _, op := Op.store 22 _ _, type := _, pos := _, after := _, guard := _ } :: _) _ _); refine wpList_store_row rfl 22 _ _ rfl (w.heap.size + 1) ((nodeB x).map B).toArray rfl rfl 22 ZB HRF.out HIB.out HZB.out HOB.out ?_))
  refine fin_ct (w.heap.size + 1) 22 ((nodeB x).map B).toArray (.int .i64 0) (by rfl) (by rfl) (by rfl) (by rfl) Try.underlying22 (by rfl) HIB.out (ArrKit.Bk.row HRF.out _) ?_
  exact ⟨rfl, ArrKit.Fr.row HFIN.out _ _ (.inl hwR)⟩
/-- PUT: what the reference's Put answers. -/
theorem rput_calls (x : NV) (w : World) (hx : x.ok) : Calls Try.prog 14 #[.agg x.cells.toArray] w fun e w' => e = .returned (.tuple #[.agg ((ipX x).map B).toArray, .int .i64 (ipE x)]) ∧ Fr0 w w' := by
  unfold ipX ipE
  cases hr : nR x with
  | false => exact rput_wrong x w hx hr
  | true => exact rput_right x w hx hr

end Go.Proofs.Ytfjkbabeceaelaa.InoRPut
