/- RemapPuts, walked. -/
import Derived.Test.YtlleandelcjhjaaDoorRmAlive
set_option maxRecDepth 100000
set_option linter.unusedVariables false
set_option linter.unusedSimpArgs false
namespace Go.Proofs.YtlleandelcjhjaaDoor.RmPutsLaw
open Go Go.RowKit Go.Proofs.YtlleandelcjhjaaDoor.K Go.Proofs.YtlleandelcjhjaaDoor.EqKit Go.Proofs.YtlleandelcjhjaaDoor.ArrKit Go.Proofs.YtlleandelcjhjaaDoor.HeldKit Go.Proofs.YtlleandelcjhjaaDoor.GKit Go.Proofs.YtlleandelcjhjaaDoor.GRow Go.Proofs.YtlleandelcjhjaaDoor.DiskKit Go.Proofs.YtlleandelcjhjaaDoor.RmKit Go.Proofs.YtlleandelcjhjaaDoor.MapKit Go.Proofs.YtlleandelcjhjaaDoor.RmRight Go.Proofs.YtlleandelcjhjaaDoor.RmRRight Go.Proofs.YtlleandelcjhjaaDoor.RmTab Go.Proofs.YtlleandelcjhjaaDoor.RmPut Go.Proofs.YtlleandelcjhjaaDoor.RmRPut Go.Proofs.YtlleandelcjhjaaDoor.RmAsk Go.Proofs.YtlleandelcjhjaaDoor.RmSame Go.Proofs.YtlleandelcjhjaaDoor.DiskSame Go.Proofs.YtlleandelcjhjaaDoor.DiskRRead Go.Proofs.YtlleandelcjhjaaDoor.RmRead Go.Proofs.YtlleandelcjhjaaDoor.RmReads Go.Proofs.YtlleandelcjhjaaDoor.RmAlive

set_option maxHeartbeats 2000000 in
set_option maxRecDepth 100000 in
theorem puts_all (m : Rm) (a : Option Addr) (c : Nat) (s n : Int) (w : World) (hm : m.ok) (hv : RV w m a c) (hs : (Lit.int .i64 s).wf = true) (hn : (Lit.int .i64 n).wf = true) (hsh : Sh w) (hlen : m.ps.length ≤ 8796093022208) : Calls Tryd.prog 3 #[.agg (rval m a c), .int .i64 s, .int .i64 n] w fun e w' => e = .returned (.bool true) ∧ Fr0 w w' := by
  have HV := Lib.hid hv
  have HSH := Lib.hid hsh
  have HX0 : Hid (Bk (w.alloc (.cells (rval m a c) 24)) w.heap.size (rval m a c) 24) := Lib.hid (Bk.new w _)
  have HF0 : Hid (Fr0 w (w.alloc (.cells (rval m a c) 24))) := Lib.hid (Fr.alloc (Fr.refl _ _) _)
  have HAL : Hid (∀ W, Fr0 w W → Calls Tryd.prog 9 #[] W fun e w' => e = .returned (.bool true) ∧ Fr0 W w') := Lib.hid (fun W f => alive_calls W (hsh.keep0 f))
  have HCP : Hid (∀ W, Fr0 w W → Calls Tryd.prog 10 #[.agg (rval m a c)] W fun e w' => ∃ g cap cur, e = .returned (.agg (rval m (some ⟨g, 0, none⟩) cap)) ∧ W.heap.size ≤ g ∧ OwnP w' g cap cur m.ps ∧ Fr0 W w') := Lib.hid (fun W f => rmcopy_calls m a c W (hv.keep f) hlen)
  have HPU : Hid (∀ a c W, Fr0 w W → RV W m a c → Calls Tryd.prog 11 #[.agg (rval m a c), .int .i64 s] W fun e w' => e = .returned (.tuple #[.agg ((tabX m s).map B).toArray, .int .i64 (tabE m s)]) ∧ Fr0 W w') := Lib.hid (fun a c W f h => RmPut.put_calls m a c s W hm h hs (hsh.keep0 f))
  have HRP : Hid (∀ a c W, RV W m a c → Calls Tryd.prog 12 #[.agg (rval m a c), .int .i64 s] W fun e w' => e = .returned (.tuple #[.agg ((tabX m s).map B).toArray, .int .i64 (tabE m s)]) ∧ Fr0 W w') := Lib.hid (fun a c W h => rput_calls m a c s W hm h hs)
  have HRI : Hid (∀ a c W, RV W m a c → Calls Tryd.prog 13 #[.agg (rval m a c), .int .i64 s] W fun e w' => e = .returned (.bool (tabB m s)) ∧ Fr0 W w') := Lib.hid (fun a c W h => RmRight.right_calls m a c s W hm h hs)
  have HRR : Hid (∀ a c W, RV W m a c → Calls Tryd.prog 14 #[.agg (rval m a c), .int .i64 s] W fun e w' => e = .returned (.bool (tabB m s)) ∧ Fr0 W w') := Lib.hid (fun a c W h => RmRRight.rright_calls m a c s W hm h hs)
  have HAT : Hid (∀ a c W, RV W m a c → Calls Tryd.prog 15 #[.agg (rval m a c), .int .i64 n] W fun e w' => e = .returned (.int .i64 (atI m n)) ∧ Fr0 W w') := Lib.hid (fun a c W h => at_calls m a c n W h hlen)
  have HRA : Hid (∀ a c W, RV W m a c → Calls Tryd.prog 16 #[.agg (rval m a c), .int .i64 n] W fun e w' => e = .returned (.int .i64 (atI m n)) ∧ Fr0 W w') := Lib.hid (fun a c W h => rat_calls m a c n W h hlen)
  have HHA : Hid (∀ W, Calls Tryd.prog 17 #[.int .i64 s] W fun e w' => e = .returned (.int .i64 (half s)) ∧ w' = W) := Lib.hid (fun W => half_calls s W hs)
  have HRH : Hid (∀ W, Calls Tryd.prog 18 #[.int .i64 s] W fun e w' => e = .returned (.int .i64 (half s)) ∧ w' = W) := Lib.hid (fun W => rhalf_calls s W hs)
  have HSA : Hid (∀ a c b d W, RV W m a c → RV W m b d → Calls Tryd.prog 19 #[.agg (rval m a c), .agg (rval m b d)] W fun e w' => e = .returned (.bool true) ∧ Fr0 W w') := Lib.hid (fun a c b d W h h' => by have := rmsame_calls m m a b c d W hm hm h h' hlen; rwa [decide_eq_true ⟨rfl, rfl⟩] at this)
  have hl := tabX_len m s
  have HIL := Lib.hid (info_l hl)
  have HSL := Lib.hid (size_l hl)
  have HOL := Lib.hid (one_l (tabX m s))
  have HEB : Hid (∀ W, (Op.equalIn 10000 27 (.agg ((tabX m s).map B).toArray) (.agg ((tabX m s).map B).toArray)).run Tryd.prog W = .ok true W) := Lib.hid (fun W => by
    have := eq_bytes (P := Tryd.prog) Tryd.underlying27 Tryd.underlying5 (by kernel_rfl) (by kernel_rfl) (by kernel_rfl) (tabX m s) (tabX m s) hl hl W
    rwa [decide_eq_true rfl] at this)
  have HIR : Hid (∀ a c, (Tryd.prog.info? 24).map (·.size) = some (rval m a c).size) := Lib.hid (fun _ _ => info_r _ _)
  have HOR : Hid (∀ a c, (rval m a c).all (·.oneCell') = true) := Lib.hid (fun a c => RC_all _ _ _ _)
  have HSR : Hid (∀ a c, RZ.size = (rval m a c).size) := Lib.hid (fun a c => rfl)
  have hzr := zero_r
  have hzb := zero_bl
  clear hm hv hs hn hsh hlen hl
  generalize ((tabX m s).map B).toArray = L at *
  generalize tabE m s = ee at *
  generalize tabB m s = tt at *
  generalize atI m n = q at *
  generalize half s = hh at *
  go_enter Tryd.func3, Tryd.ntmps3
  go_wp2_with (first | (go_at_call 9; (with_reducible refine (HAL.out _ HF0.out).mono ?_); rintro e w1 ⟨rfl, hf1⟩; have HF1 := Lib.hid (HF0.out.then0 hf1); have HX1 := Lib.hid (hf1.keep HX0.out (fun h => h)); clear hf1) | ((with_reducible show wpList _ _ _ ({ dst := _, op := Op.load 24 _, type := _, pos := _, after := _, guard := _ } :: _) _ _); refine wpList_load_row_g (by rfl) 24 _ rfl w.heap.size rfl 24 (rval m a c) (0, 0) _ HX5.out Tryd.underlying24 rfl (HIR.out _ _) ?_) | ((with_reducible show wpList _ _ _ ({ dst := _, op := Op.load 24 _, type := _, pos := _, after := _, guard := _ } :: _) _ _); refine wpList_load_row_g (by rfl) 24 _ rfl w.heap.size rfl 24 (rval m a c) (0, 0) _ HX1.out Tryd.underlying24 rfl (HIR.out _ _) ?_) | (go_at_call 10; (with_reducible refine (HCP.out _ HF1.out).mono ?_); rintro e w2 ⟨g2, k2, cur2, rfl, hg2, ho2, hf2⟩; have HZ2 := Lib.hid (Bk.new w2 (.cells RZ 24)); have hf3 : Fr0 w2 ((w2.alloc (.cells RZ 24)).setRow w2.heap.size (rval m (some ⟨g2, 0, none⟩) k2)) := ArrKit.Fr.row (Fr.alloc (Fr.refl _ _) _) _ _ (.inl (Nat.le_refl _)); have HF3 := Lib.hid ((HF1.out.then0 hf2).then0 hf3); have HX3 := Lib.hid (hf3.keep (hf2.keep HX1.out (fun h => h)) (fun h => h)); have HY3 : Hid (Bk ((w2.alloc (.cells RZ 24)).setRow w2.heap.size (rval m (some ⟨g2, 0, none⟩) k2)) w2.heap.size (rval m (some ⟨g2, 0, none⟩) k2) 24) := Lib.hid (ArrKit.Bk.row HZ2.out _); have HRV3 : Hid (RV ((w2.alloc (.cells RZ 24)).setRow w2.heap.size (rval m (some ⟨g2, 0, none⟩) k2)) m (some ⟨g2, 0, none⟩) k2) := Lib.hid (RV.keep ⟨OwnG.rd ho2, OwnG.room ho2, OwnG.max ho2⟩ hf3); clear hg2 ho2 hf2 hf3) | ((with_reducible show wpList _ _ _ ({ dst := _, op := Op.store 24 _ _, type := _, pos := _, after := _, guard := _ } :: _) _ _); refine wpList_store_row rfl 24 _ _ rfl w2.heap.size (rval m (some ⟨g2, 0, none⟩) k2) rfl rfl 24 RZ HZ2.out (HIR.out _ _) (HSR.out _ _) (HOR.out _ _) ?_) | ((with_reducible show wpList _ _ _ ({ dst := _, op := Op.load 24 _, type := _, pos := _, after := _, guard := _ } :: _) _ _); refine wpList_load_row_g (by rfl) 24 _ rfl w2.heap.size rfl 24 (rval m (some ⟨g2, 0, none⟩) k2) (0, 0) _ HY3.out Tryd.underlying24 rfl (HIR.out _ _) ?_) | (go_at_call 11; (with_reducible refine (HPU.out _ _ _ HF3.out HRV3.out).mono ?_); rintro e w4 ⟨rfl, hf4⟩; have HZ4 := Lib.hid (Bk.new w4 (.cells ZB 27)); have hf5 : Fr0 w4 ((w4.alloc (.cells ZB 27)).setRow w4.heap.size L) := ArrKit.Fr.row (Fr.alloc (Fr.refl _ _) _) _ _ (.inl (Nat.le_refl _)); have HF5 := Lib.hid ((HF3.out.then0 hf4).then0 hf5); have HX5 := Lib.hid (hf5.keep (hf4.keep HX3.out (fun h => h)) (fun h => h)); have HY5 := Lib.hid (hf5.keep (hf4.keep HY3.out (fun h => h)) (fun h => h)); have HRV5 := Lib.hid ((HRV3.out.keep hf4).keep hf5); have HB5 : Hid (Bk ((w4.alloc (.cells ZB 27)).setRow w4.heap.size L) w4.heap.size L 27) := Lib.hid (ArrKit.Bk.row HZ4.out _); clear hf4 hf5) | ((with_reducible show wpList _ _ _ ({ dst := _, op := Op.store 27 _ _, type := _, pos := _, after := _, guard := _ } :: _) _ _); refine wpList_store_row rfl 27 _ _ rfl w4.heap.size L rfl rfl 27 ZB HZ4.out HIL.out HSL.out HOL.out ?_) | (go_at_call 12; (with_reducible refine (HRP.out _ _ _ (HV.out.keep HF5.out)).mono ?_); rintro e w6 ⟨rfl, hf6⟩; have HZ6 := Lib.hid (Bk.new w6 (.cells ZB 27)); have hf7 : Fr0 w6 ((w6.alloc (.cells ZB 27)).setRow w6.heap.size L) := ArrKit.Fr.row (Fr.alloc (Fr.refl _ _) _) _ _ (.inl (Nat.le_refl _)); have HF7 := Lib.hid ((HF5.out.then0 hf6).then0 hf7); have HX7 := Lib.hid (hf7.keep (hf6.keep HX5.out (fun h => h)) (fun h => h)); have HY7 := Lib.hid (hf7.keep (hf6.keep HY5.out (fun h => h)) (fun h => h)); have HRV7 := Lib.hid ((HRV5.out.keep hf6).keep hf7); have HB7 := Lib.hid (hf7.keep (hf6.keep HB5.out (fun h => h)) (fun h => h)); have HC7 : Hid (Bk ((w6.alloc (.cells ZB 27)).setRow w6.heap.size L) w6.heap.size L 27) := Lib.hid (ArrKit.Bk.row HZ6.out _); clear hf6 hf7) | ((with_reducible show wpList _ _ _ ({ dst := _, op := Op.store 27 _ _, type := _, pos := _, after := _, guard := _ } :: _) _ _); refine wpList_store_row rfl 27 _ _ rfl w6.heap.size L rfl rfl 27 ZB HZ6.out HIL.out HSL.out HOL.out ?_))
  generalize ((w6.alloc (.cells ZB 27)).setRow w6.heap.size L) = w7 at *
  have HS7 : Hid (Bk w7 w.heap.size (rval m a c) 24 ∧ Bk w7 w2.heap.size (rval m (some ⟨g2, 0, none⟩) k2) 24 ∧ Bk w7 w4.heap.size L 27 ∧ Bk w7 w6.heap.size L 27 ∧ Fr0 w w7 ∧ RV w7 m (some ⟨g2, 0, none⟩) k2) := Lib.hid ⟨HX7.out, HY7.out, HB7.out, HC7.out, HF7.out, HRV7.out⟩
  clear HX7 HY7 HB7 HC7 HRV7 HZ6 HB5 HRV5 HY5 HX5 HF5 HZ4 HRV3 HY3 HX3 HF3 HZ2 HX1 HF1
  generalize w2.heap.size = bo at *
  generalize w4.heap.size = bb at *
  generalize w6.heap.size = bc at *
  refine wp_region_noPanic ?_
  refine wp_region_held_drew (S := (fun W : World => Bk W w.heap.size (rval m a c) 24 ∧ Bk W bo (rval m (some ⟨g2, 0, none⟩) k2) 24 ∧ Bk W bb L 27 ∧ Bk W bc L 27 ∧ Fr0 w W ∧ RV W m (some ⟨g2, 0, none⟩) k2)) (by kernel_rfl) (⟨HS7.out.1, HS7.out.2.1, HS7.out.2.2.1, HS7.out.2.2.2.1, Fr.drew HS7.out.2.2.2.2.1, HS7.out.2.2.2.2.2.keep (Fr.drew (Fr.refl _ _))⟩) (fun hHeld0 => ?_)
  change wpAnyH _ _ _ _ _ 39 #[false, false, false, false, false, false, false, false, false, false, false, false, false, false, false, false, false, false, false, false, false, false, false, false, false, false, false, false, false, false, false, false, false, false, false, false, false, false, false] _ _
  refine wpAnyH_take (i := 0) (v := .agg L) rfl (by kernel_rfl) (by kernel_rfl) (by kernel_rfl) (fun _ _ _ h => h) (yields_row (by kernel_rfl) 27 _ rfl (bb) rfl 27 L (0, 0) _ (fun _ h => h.2.2.1) Tryd.underlying27 rfl HIL.out) hHeld0 ?_
  simp only [Act.put, List.getElem_toArray, List.getElem_cons_succ, List.getElem_cons_zero, List.setIfInBounds_toArray, List.set_cons_zero, List.set_cons_succ]
  change wpAnyH _ _ _ _ _ 38 #[true, false, false, false, false, false, false, false, false, false, false, false, false, false, false, false, false, false, false, false, false, false, false, false, false, false, false, false, false, false, false, false, false, false, false, false, false, false, false] _ _
  refine wpAnyH_take (i := 1) (v := .agg L) rfl (by kernel_rfl) (by kernel_rfl) (by kernel_rfl) (fun _ _ _ h => h) (yields_row (by kernel_rfl) 27 _ rfl (bc) rfl 27 L (0, 0) _ (fun _ h => h.2.2.2.1) Tryd.underlying27 rfl HIL.out) hHeld0 ?_
  simp only [Act.put, List.getElem_toArray, List.getElem_cons_succ, List.getElem_cons_zero, List.setIfInBounds_toArray, List.set_cons_zero, List.set_cons_succ]
  change wpAnyH _ _ _ _ _ 37 #[true, true, false, false, false, false, false, false, false, false, false, false, false, false, false, false, false, false, false, false, false, false, false, false, false, false, false, false, false, false, false, false, false, false, false, false, false, false, false] _ _
  refine wpAnyH_take (i := 2) (v := .bool true) rfl (by kernel_rfl) (by kernel_rfl) (by kernel_rfl) (fun _ _ _ h => h) (Or.inl ⟨by kernel_rfl, fun w hSw => run_eql_op rfl rfl rfl guard_b HEB.out w⟩) hHeld0 ?_
  simp only [Act.put, List.getElem_toArray, List.getElem_cons_succ, List.getElem_cons_zero, List.setIfInBounds_toArray, List.set_cons_zero, List.set_cons_succ]
  change wpAnyH _ _ _ _ _ 36 #[true, true, true, false, false, false, false, false, false, false, false, false, false, false, false, false, false, false, false, false, false, false, false, false, false, false, false, false, false, false, false, false, false, false, false, false, false, false, false] _ _
  refine wpAnyH_take (i := 3) (v := .bool true) rfl (by kernel_rfl) (by kernel_rfl) (by kernel_rfl) (fun _ _ _ h => h) (Or.inl ⟨by kernel_rfl, fun w hSw => by first | kernel_rfl | (go_simp; done)⟩) hHeld0 ?_
  simp only [Act.put, List.getElem_toArray, List.getElem_cons_succ, List.getElem_cons_zero, List.setIfInBounds_toArray, List.set_cons_zero, List.set_cons_succ]
  change wpAnyH _ _ _ _ _ 35 #[true, true, true, true, false, false, false, false, false, false, false, false, false, false, false, false, false, false, false, false, false, false, false, false, false, false, false, false, false, false, false, false, false, false, false, false, false, false, false] _ _
  refine wpAnyH_take (i := 4) (v := .int .i64 ee) rfl (by kernel_rfl) (by kernel_rfl) (by kernel_rfl) (fun _ _ _ h => h) (Or.inl ⟨by kernel_rfl, fun w hSw => by first | kernel_rfl | (go_simp; done)⟩) hHeld0 ?_
  simp only [Act.put, List.getElem_toArray, List.getElem_cons_succ, List.getElem_cons_zero, List.setIfInBounds_toArray, List.set_cons_zero, List.set_cons_succ]
  change wpAnyH _ _ _ _ _ 34 #[true, true, true, true, true, false, false, false, false, false, false, false, false, false, false, false, false, false, false, false, false, false, false, false, false, false, false, false, false, false, false, false, false, false, false, false, false, false, false] _ _
  refine wpAnyH_take (i := 5) (v := .int .i64 ee) rfl (by kernel_rfl) (by kernel_rfl) (by kernel_rfl) (fun _ _ _ h => h) (Or.inl ⟨by kernel_rfl, fun w hSw => by first | kernel_rfl | (go_simp; done)⟩) hHeld0 ?_
  simp only [Act.put, List.getElem_toArray, List.getElem_cons_succ, List.getElem_cons_zero, List.setIfInBounds_toArray, List.set_cons_zero, List.set_cons_succ]
  change wpAnyH _ _ _ _ _ 33 #[true, true, true, true, true, true, false, false, false, false, false, false, false, false, false, false, false, false, false, false, false, false, false, false, false, false, false, false, false, false, false, false, false, false, false, false, false, false, false] _ _
  refine wpAnyH_take (i := 6) (v := .bool true) rfl (by kernel_rfl) (by kernel_rfl) (by kernel_rfl) (fun _ _ _ h => h) (Or.inl ⟨by kernel_rfl, fun w hSw => by go_simp <;> (first | exact beq_iff_eq.1 (by assumption) | exact beq_eq_false_iff_ne.1 (by assumption) | omega)⟩) hHeld0 ?_
  simp only [Act.put, List.getElem_toArray, List.getElem_cons_succ, List.getElem_cons_zero, List.setIfInBounds_toArray, List.set_cons_zero, List.set_cons_succ]
  change wpAnyH _ _ _ _ _ 32 #[true, true, true, true, true, true, true, false, false, false, false, false, false, false, false, false, false, false, false, false, false, false, false, false, false, false, false, false, false, false, false, false, false, false, false, false, false, false, false] _ _
  refine wpAnyH_take (i := 7) (v := .bool true) rfl (by kernel_rfl) (by kernel_rfl) (by kernel_rfl) (fun _ _ _ h => h) (Or.inl ⟨by kernel_rfl, fun w hSw => by first | kernel_rfl | (go_simp; done)⟩) hHeld0 ?_
  simp only [Act.put, List.getElem_toArray, List.getElem_cons_succ, List.getElem_cons_zero, List.setIfInBounds_toArray, List.set_cons_zero, List.set_cons_succ]
  change wpAnyH _ _ _ _ _ 31 #[true, true, true, true, true, true, true, true, false, false, false, false, false, false, false, false, false, false, false, false, false, false, false, false, false, false, false, false, false, false, false, false, false, false, false, false, false, false, false] _ _
  refine wpAnyH_take (i := 8) (v := .bool true) rfl (by kernel_rfl) (by kernel_rfl) (by kernel_rfl) (fun _ _ _ h => h) (Or.inl ⟨by kernel_rfl, fun w hSw => by first | kernel_rfl | (go_simp; done)⟩) hHeld0 ?_
  simp only [Act.put, List.getElem_toArray, List.getElem_cons_succ, List.getElem_cons_zero, List.setIfInBounds_toArray, List.set_cons_zero, List.set_cons_succ]
  change wpAnyH _ _ _ _ _ 30 #[true, true, true, true, true, true, true, true, true, false, false, false, false, false, false, false, false, false, false, false, false, false, false, false, false, false, false, false, false, false, false, false, false, false, false, false, false, false, false] _ _
  refine wpAnyH_take (i := 9) (v := .agg (rval m (some ⟨g2, 0, none⟩) k2)) rfl (by kernel_rfl) (by kernel_rfl) (by kernel_rfl) (fun _ _ _ h => h) (yields_row (by kernel_rfl) 24 _ rfl (bo) rfl 24 (rval m (some ⟨g2, 0, none⟩) k2) (0, 0) _ (fun _ h => h.2.1) Tryd.underlying24 rfl (HIR.out _ _)) hHeld0 ?_
  simp only [Act.put, List.getElem_toArray, List.getElem_cons_succ, List.getElem_cons_zero, List.setIfInBounds_toArray, List.set_cons_zero, List.set_cons_succ]
  change wpAnyH _ _ _ _ _ 29 #[true, true, true, true, true, true, true, true, true, true, false, false, false, false, false, false, false, false, false, false, false, false, false, false, false, false, false, false, false, false, false, false, false, false, false, false, false, false, false] _ _
  refine wpAnyH_take (i := 10) (v := .int .i64 s) rfl (by kernel_rfl) (by kernel_rfl) (by kernel_rfl) (fun _ _ _ h => h) (Or.inl ⟨by kernel_rfl, fun w hSw => by first | kernel_rfl | (go_simp; done)⟩) hHeld0 ?_
  simp only [Act.put, List.getElem_toArray, List.getElem_cons_succ, List.getElem_cons_zero, List.setIfInBounds_toArray, List.set_cons_zero, List.set_cons_succ]
  change wpAnyH _ _ _ _ _ 28 #[true, true, true, true, true, true, true, true, true, true, true, false, false, false, false, false, false, false, false, false, false, false, false, false, false, false, false, false, false, false, false, false, false, false, false, false, false, false, false] _ _
  refine wpAnyH_take (i := 12) (v := .agg (rval m a c)) rfl (by kernel_rfl) (by kernel_rfl) (by kernel_rfl) (fun _ _ _ h => h) (yields_row (by kernel_rfl) 24 _ rfl (w.heap.size) rfl 24 (rval m a c) (0, 0) _ (fun _ h => h.1) Tryd.underlying24 rfl (HIR.out _ _)) hHeld0 ?_
  simp only [Act.put, List.getElem_toArray, List.getElem_cons_succ, List.getElem_cons_zero, List.setIfInBounds_toArray, List.set_cons_zero, List.set_cons_succ]
  change wpAnyH _ _ _ _ _ 27 #[true, true, true, true, true, true, true, true, true, true, true, false, true, false, false, false, false, false, false, false, false, false, false, false, false, false, false, false, false, false, false, false, false, false, false, false, false, false, false] _ _
  refine wpAnyH_take (i := 13) (v := .int .i64 s) rfl (by kernel_rfl) (by kernel_rfl) (by kernel_rfl) (fun _ _ _ h => h) (Or.inl ⟨by kernel_rfl, fun w hSw => by first | kernel_rfl | (go_simp; done)⟩) hHeld0 ?_
  simp only [Act.put, List.getElem_toArray, List.getElem_cons_succ, List.getElem_cons_zero, List.setIfInBounds_toArray, List.set_cons_zero, List.set_cons_succ]
  change wpAnyH _ _ _ _ _ 26 #[true, true, true, true, true, true, true, true, true, true, true, false, true, true, false, false, false, false, false, false, false, false, false, false, false, false, false, false, false, false, false, false, false, false, false, false, false, false, false] _ _
  refine wpAnyH_ready (rs := [11]) (by kernel_rfl) (by simp) ?_
  refine AllReadyH.cons rfl (fun K hK => ?_) AllReadyH.nil
  simp only [List.getElem_toArray, List.getElem_cons_succ, List.getElem_cons_zero]
  refine (if_pos (by kernel_rfl)).mpr ?_
  go_wp2_with fail
  refine (HRI.out _ _ _ (hHeld0).2.2.2.2.2).mono ?_
  rintro e wx0 ⟨rfl, hfx0⟩
  dsimp only
  refine hK.out _ _ (⟨hfx0.keep (hHeld0).1 (fun h => h), hfx0.keep (hHeld0).2.1 (fun h => h), hfx0.keep (hHeld0).2.2.1 (fun h => h), hfx0.keep (hHeld0).2.2.2.1 (fun h => h), (hHeld0).2.2.2.2.1.then0 hfx0, (hHeld0).2.2.2.2.2.keep hfx0⟩) (fun hHeld1 => ?_)
  clear hK K hHeld0
  change wpAnyH _ _ _ _ _ 25 #[true, true, true, true, true, true, true, true, true, true, true, true, true, true, false, false, false, false, false, false, false, false, false, false, false, false, false, false, false, false, false, false, false, false, false, false, false, false, false] _ _
  refine wpAnyH_ready (rs := [14]) (by kernel_rfl) (by simp) ?_
  refine AllReadyH.cons rfl (fun K hK => ?_) AllReadyH.nil
  simp only [List.getElem_toArray, List.getElem_cons_succ, List.getElem_cons_zero]
  refine (if_pos (by kernel_rfl)).mpr ?_
  go_wp2_with fail
  refine (HRR.out _ _ _ (HV.out.keep (hHeld1).2.2.2.2.1)).mono ?_
  rintro e wx1 ⟨rfl, hfx1⟩
  dsimp only
  refine hK.out _ _ (⟨hfx1.keep (hHeld1).1 (fun h => h), hfx1.keep (hHeld1).2.1 (fun h => h), hfx1.keep (hHeld1).2.2.1 (fun h => h), hfx1.keep (hHeld1).2.2.2.1 (fun h => h), (hHeld1).2.2.2.2.1.then0 hfx1, (hHeld1).2.2.2.2.2.keep hfx1⟩) (fun hHeld2 => ?_)
  clear hK K hHeld1
  change wpAnyH _ _ _ _ _ 24 #[true, true, true, true, true, true, true, true, true, true, true, true, true, true, true, false, false, false, false, false, false, false, false, false, false, false, false, false, false, false, false, false, false, false, false, false, false, false, false] _ _
  refine wpAnyH_take (i := 15) (v := .bool true) rfl (by kernel_rfl) (by kernel_rfl) (by kernel_rfl) (fun _ _ _ h => h) (Or.inl ⟨by kernel_rfl, fun w hSw => by go_simp <;> (first | exact beq_iff_eq.1 (by assumption) | exact beq_eq_false_iff_ne.1 (by assumption) | omega)⟩) hHeld2 ?_
  simp only [Act.put, List.getElem_toArray, List.getElem_cons_succ, List.getElem_cons_zero, List.setIfInBounds_toArray, List.set_cons_zero, List.set_cons_succ]
  change wpAnyH _ _ _ _ _ 23 #[true, true, true, true, true, true, true, true, true, true, true, true, true, true, true, true, false, false, false, false, false, false, false, false, false, false, false, false, false, false, false, false, false, false, false, false, false, false, false] _ _
  refine wpAnyH_take (i := 16) (v := .bool true) rfl (by kernel_rfl) (by kernel_rfl) (by kernel_rfl) (fun _ _ _ h => h) (Or.inl ⟨by kernel_rfl, fun w hSw => by first | kernel_rfl | (go_simp; done)⟩) hHeld2 ?_
  simp only [Act.put, List.getElem_toArray, List.getElem_cons_succ, List.getElem_cons_zero, List.setIfInBounds_toArray, List.set_cons_zero, List.set_cons_succ]
  change wpAnyH _ _ _ _ _ 22 #[true, true, true, true, true, true, true, true, true, true, true, true, true, true, true, true, true, false, false, false, false, false, false, false, false, false, false, false, false, false, false, false, false, false, false, false, false, false, false] _ _
  refine wpAnyH_take (i := 17) (v := .bool true) rfl (by kernel_rfl) (by kernel_rfl) (by kernel_rfl) (fun _ _ _ h => h) (Or.inl ⟨by kernel_rfl, fun w hSw => by first | kernel_rfl | (go_simp; done)⟩) hHeld2 ?_
  simp only [Act.put, List.getElem_toArray, List.getElem_cons_succ, List.getElem_cons_zero, List.setIfInBounds_toArray, List.set_cons_zero, List.set_cons_succ]
  change wpAnyH _ _ _ _ _ 21 #[true, true, true, true, true, true, true, true, true, true, true, true, true, true, true, true, true, true, false, false, false, false, false, false, false, false, false, false, false, false, false, false, false, false, false, false, false, false, false] _ _
  refine wpAnyH_take (i := 18) (v := .agg (rval m (some ⟨g2, 0, none⟩) k2)) rfl (by kernel_rfl) (by kernel_rfl) (by kernel_rfl) (fun _ _ _ h => h) (yields_row (by kernel_rfl) 24 _ rfl (bo) rfl 24 (rval m (some ⟨g2, 0, none⟩) k2) (0, 0) _ (fun _ h => h.2.1) Tryd.underlying24 rfl (HIR.out _ _)) hHeld2 ?_
  simp only [Act.put, List.getElem_toArray, List.getElem_cons_succ, List.getElem_cons_zero, List.setIfInBounds_toArray, List.set_cons_zero, List.set_cons_succ]
  change wpAnyH _ _ _ _ _ 20 #[true, true, true, true, true, true, true, true, true, true, true, true, true, true, true, true, true, true, true, false, false, false, false, false, false, false, false, false, false, false, false, false, false, false, false, false, false, false, false] _ _
  refine wpAnyH_take (i := 19) (v := .int .i64 n) rfl (by kernel_rfl) (by kernel_rfl) (by kernel_rfl) (fun _ _ _ h => h) (Or.inl ⟨by kernel_rfl, fun w hSw => by first | kernel_rfl | (go_simp; done)⟩) hHeld2 ?_
  simp only [Act.put, List.getElem_toArray, List.getElem_cons_succ, List.getElem_cons_zero, List.setIfInBounds_toArray, List.set_cons_zero, List.set_cons_succ]
  change wpAnyH _ _ _ _ _ 19 #[true, true, true, true, true, true, true, true, true, true, true, true, true, true, true, true, true, true, true, true, false, false, false, false, false, false, false, false, false, false, false, false, false, false, false, false, false, false, false] _ _
  refine wpAnyH_take (i := 21) (v := .agg (rval m a c)) rfl (by kernel_rfl) (by kernel_rfl) (by kernel_rfl) (fun _ _ _ h => h) (yields_row (by kernel_rfl) 24 _ rfl (w.heap.size) rfl 24 (rval m a c) (0, 0) _ (fun _ h => h.1) Tryd.underlying24 rfl (HIR.out _ _)) hHeld2 ?_
  simp only [Act.put, List.getElem_toArray, List.getElem_cons_succ, List.getElem_cons_zero, List.setIfInBounds_toArray, List.set_cons_zero, List.set_cons_succ]
  change wpAnyH _ _ _ _ _ 18 #[true, true, true, true, true, true, true, true, true, true, true, true, true, true, true, true, true, true, true, true, false, true, false, false, false, false, false, false, false, false, false, false, false, false, false, false, false, false, false] _ _
  refine wpAnyH_take (i := 22) (v := .int .i64 n) rfl (by kernel_rfl) (by kernel_rfl) (by kernel_rfl) (fun _ _ _ h => h) (Or.inl ⟨by kernel_rfl, fun w hSw => by first | kernel_rfl | (go_simp; done)⟩) hHeld2 ?_
  simp only [Act.put, List.getElem_toArray, List.getElem_cons_succ, List.getElem_cons_zero, List.setIfInBounds_toArray, List.set_cons_zero, List.set_cons_succ]
  change wpAnyH _ _ _ _ _ 17 #[true, true, true, true, true, true, true, true, true, true, true, true, true, true, true, true, true, true, true, true, false, true, true, false, false, false, false, false, false, false, false, false, false, false, false, false, false, false, false] _ _
  refine wpAnyH_ready (rs := [20]) (by kernel_rfl) (by simp) ?_
  refine AllReadyH.cons rfl (fun K hK => ?_) AllReadyH.nil
  simp only [List.getElem_toArray, List.getElem_cons_succ, List.getElem_cons_zero]
  refine (if_pos (by kernel_rfl)).mpr ?_
  go_wp2_with fail
  refine (HAT.out _ _ _ (hHeld2).2.2.2.2.2).mono ?_
  rintro e wx2 ⟨rfl, hfx2⟩
  dsimp only
  refine hK.out _ _ (⟨hfx2.keep (hHeld2).1 (fun h => h), hfx2.keep (hHeld2).2.1 (fun h => h), hfx2.keep (hHeld2).2.2.1 (fun h => h), hfx2.keep (hHeld2).2.2.2.1 (fun h => h), (hHeld2).2.2.2.2.1.then0 hfx2, (hHeld2).2.2.2.2.2.keep hfx2⟩) (fun hHeld3 => ?_)
  clear hK K hHeld2
  change wpAnyH _ _ _ _ _ 16 #[true, true, true, true, true, true, true, true, true, true, true, true, true, true, true, true, true, true, true, true, true, true, true, false, false, false, false, false, false, false, false, false, false, false, false, false, false, false, false] _ _
  refine wpAnyH_ready (rs := [23]) (by kernel_rfl) (by simp) ?_
  refine AllReadyH.cons rfl (fun K hK => ?_) AllReadyH.nil
  simp only [List.getElem_toArray, List.getElem_cons_succ, List.getElem_cons_zero]
  refine (if_pos (by kernel_rfl)).mpr ?_
  go_wp2_with fail
  refine (HRA.out _ _ _ (HV.out.keep (hHeld3).2.2.2.2.1)).mono ?_
  rintro e wx3 ⟨rfl, hfx3⟩
  dsimp only
  refine hK.out _ _ (⟨hfx3.keep (hHeld3).1 (fun h => h), hfx3.keep (hHeld3).2.1 (fun h => h), hfx3.keep (hHeld3).2.2.1 (fun h => h), hfx3.keep (hHeld3).2.2.2.1 (fun h => h), (hHeld3).2.2.2.2.1.then0 hfx3, (hHeld3).2.2.2.2.2.keep hfx3⟩) (fun hHeld4 => ?_)
  clear hK K hHeld3
  change wpAnyH _ _ _ _ _ 15 #[true, true, true, true, true, true, true, true, true, true, true, true, true, true, true, true, true, true, true, true, true, true, true, true, false, false, false, false, false, false, false, false, false, false, false, false, false, false, false] _ _
  refine wpAnyH_take (i := 24) (v := .bool true) rfl (by kernel_rfl) (by kernel_rfl) (by kernel_rfl) (fun _ _ _ h => h) (Or.inl ⟨by kernel_rfl, fun w hSw => by go_simp <;> (first | exact beq_iff_eq.1 (by assumption) | exact beq_eq_false_iff_ne.1 (by assumption) | omega)⟩) hHeld4 ?_
  simp only [Act.put, List.getElem_toArray, List.getElem_cons_succ, List.getElem_cons_zero, List.setIfInBounds_toArray, List.set_cons_zero, List.set_cons_succ]
  change wpAnyH _ _ _ _ _ 14 #[true, true, true, true, true, true, true, true, true, true, true, true, true, true, true, true, true, true, true, true, true, true, true, true, true, false, false, false, false, false, false, false, false, false, false, false, false, false, false] _ _
  refine wpAnyH_take (i := 25) (v := .bool true) rfl (by kernel_rfl) (by kernel_rfl) (by kernel_rfl) (fun _ _ _ h => h) (Or.inl ⟨by kernel_rfl, fun w hSw => by first | kernel_rfl | (go_simp; done)⟩) hHeld4 ?_
  simp only [Act.put, List.getElem_toArray, List.getElem_cons_succ, List.getElem_cons_zero, List.setIfInBounds_toArray, List.set_cons_zero, List.set_cons_succ]
  change wpAnyH _ _ _ _ _ 13 #[true, true, true, true, true, true, true, true, true, true, true, true, true, true, true, true, true, true, true, true, true, true, true, true, true, true, false, false, false, false, false, false, false, false, false, false, false, false, false] _ _
  refine wpAnyH_take (i := 26) (v := .bool true) rfl (by kernel_rfl) (by kernel_rfl) (by kernel_rfl) (fun _ _ _ h => h) (Or.inl ⟨by kernel_rfl, fun w hSw => by first | kernel_rfl | (go_simp; done)⟩) hHeld4 ?_
  simp only [Act.put, List.getElem_toArray, List.getElem_cons_succ, List.getElem_cons_zero, List.setIfInBounds_toArray, List.set_cons_zero, List.set_cons_succ]
  change wpAnyH _ _ _ _ _ 12 #[true, true, true, true, true, true, true, true, true, true, true, true, true, true, true, true, true, true, true, true, true, true, true, true, true, true, true, false, false, false, false, false, false, false, false, false, false, false, false] _ _
  refine wpAnyH_take (i := 27) (v := .int .i64 s) rfl (by kernel_rfl) (by kernel_rfl) (by kernel_rfl) (fun _ _ _ h => h) (Or.inl ⟨by kernel_rfl, fun w hSw => by first | kernel_rfl | (go_simp; done)⟩) hHeld4 ?_
  simp only [Act.put, List.getElem_toArray, List.getElem_cons_succ, List.getElem_cons_zero, List.setIfInBounds_toArray, List.set_cons_zero, List.set_cons_succ]
  change wpAnyH _ _ _ _ _ 11 #[true, true, true, true, true, true, true, true, true, true, true, true, true, true, true, true, true, true, true, true, true, true, true, true, true, true, true, true, false, false, false, false, false, false, false, false, false, false, false] _ _
  refine wpAnyH_take (i := 29) (v := .int .i64 s) rfl (by kernel_rfl) (by kernel_rfl) (by kernel_rfl) (fun _ _ _ h => h) (Or.inl ⟨by kernel_rfl, fun w hSw => by first | kernel_rfl | (go_simp; done)⟩) hHeld4 ?_
  simp only [Act.put, List.getElem_toArray, List.getElem_cons_succ, List.getElem_cons_zero, List.setIfInBounds_toArray, List.set_cons_zero, List.set_cons_succ]
  change wpAnyH _ _ _ _ _ 10 #[true, true, true, true, true, true, true, true, true, true, true, true, true, true, true, true, true, true, true, true, true, true, true, true, true, true, true, true, false, true, false, false, false, false, false, false, false, false, false] _ _
  refine wpAnyH_ready (rs := [28]) (by kernel_rfl) (by simp) ?_
  refine AllReadyH.cons rfl (fun K hK => ?_) AllReadyH.nil
  simp only [List.getElem_toArray, List.getElem_cons_succ, List.getElem_cons_zero]
  refine (if_pos (by kernel_rfl)).mpr ?_
  go_wp2_with fail
  refine (HHA.out _).mono ?_
  rintro e wx4 ⟨rfl, rfl⟩
  dsimp only
  refine hK.out _ _ (hHeld4) (fun hHeld5 => ?_)
  clear hK K hHeld4
  change wpAnyH _ _ _ _ _ 9 #[true, true, true, true, true, true, true, true, true, true, true, true, true, true, true, true, true, true, true, true, true, true, true, true, true, true, true, true, true, true, false, false, false, false, false, false, false, false, false] _ _
  refine wpAnyH_ready (rs := [30]) (by kernel_rfl) (by simp) ?_
  refine AllReadyH.cons rfl (fun K hK => ?_) AllReadyH.nil
  simp only [List.getElem_toArray, List.getElem_cons_succ, List.getElem_cons_zero]
  refine (if_pos (by kernel_rfl)).mpr ?_
  go_wp2_with fail
  refine (HRH.out _).mono ?_
  rintro e wx5 ⟨rfl, rfl⟩
  dsimp only
  refine hK.out _ _ (hHeld5) (fun hHeld6 => ?_)
  clear hK K hHeld5
  change wpAnyH _ _ _ _ _ 8 #[true, true, true, true, true, true, true, true, true, true, true, true, true, true, true, true, true, true, true, true, true, true, true, true, true, true, true, true, true, true, true, false, false, false, false, false, false, false, false] _ _
  refine wpAnyH_take (i := 31) (v := .bool true) rfl (by kernel_rfl) (by kernel_rfl) (by kernel_rfl) (fun _ _ _ h => h) (Or.inl ⟨by kernel_rfl, fun w hSw => by go_simp <;> (first | exact beq_iff_eq.1 (by assumption) | exact beq_eq_false_iff_ne.1 (by assumption) | omega)⟩) hHeld6 ?_
  simp only [Act.put, List.getElem_toArray, List.getElem_cons_succ, List.getElem_cons_zero, List.setIfInBounds_toArray, List.set_cons_zero, List.set_cons_succ]
  change wpAnyH _ _ _ _ _ 7 #[true, true, true, true, true, true, true, true, true, true, true, true, true, true, true, true, true, true, true, true, true, true, true, true, true, true, true, true, true, true, true, true, false, false, false, false, false, false, false] _ _
  refine wpAnyH_take (i := 32) (v := .bool true) rfl (by kernel_rfl) (by kernel_rfl) (by kernel_rfl) (fun _ _ _ h => h) (Or.inl ⟨by kernel_rfl, fun w hSw => by first | kernel_rfl | (go_simp; done)⟩) hHeld6 ?_
  simp only [Act.put, List.getElem_toArray, List.getElem_cons_succ, List.getElem_cons_zero, List.setIfInBounds_toArray, List.set_cons_zero, List.set_cons_succ]
  change wpAnyH _ _ _ _ _ 6 #[true, true, true, true, true, true, true, true, true, true, true, true, true, true, true, true, true, true, true, true, true, true, true, true, true, true, true, true, true, true, true, true, true, false, false, false, false, false, false] _ _
  refine wpAnyH_take (i := 33) (v := .bool true) rfl (by kernel_rfl) (by kernel_rfl) (by kernel_rfl) (fun _ _ _ h => h) (Or.inl ⟨by kernel_rfl, fun w hSw => by first | kernel_rfl | (go_simp; done)⟩) hHeld6 ?_
  simp only [Act.put, List.getElem_toArray, List.getElem_cons_succ, List.getElem_cons_zero, List.setIfInBounds_toArray, List.set_cons_zero, List.set_cons_succ]
  change wpAnyH _ _ _ _ _ 5 #[true, true, true, true, true, true, true, true, true, true, true, true, true, true, true, true, true, true, true, true, true, true, true, true, true, true, true, true, true, true, true, true, true, true, false, false, false, false, false] _ _
  refine wpAnyH_take (i := 34) (v := .agg (rval m (some ⟨g2, 0, none⟩) k2)) rfl (by kernel_rfl) (by kernel_rfl) (by kernel_rfl) (fun _ _ _ h => h) (yields_row (by kernel_rfl) 24 _ rfl (bo) rfl 24 (rval m (some ⟨g2, 0, none⟩) k2) (0, 0) _ (fun _ h => h.2.1) Tryd.underlying24 rfl (HIR.out _ _)) hHeld6 ?_
  simp only [Act.put, List.getElem_toArray, List.getElem_cons_succ, List.getElem_cons_zero, List.setIfInBounds_toArray, List.set_cons_zero, List.set_cons_succ]
  change wpAnyH _ _ _ _ _ 4 #[true, true, true, true, true, true, true, true, true, true, true, true, true, true, true, true, true, true, true, true, true, true, true, true, true, true, true, true, true, true, true, true, true, true, true, false, false, false, false] _ _
  refine wpAnyH_take (i := 35) (v := .agg (rval m a c)) rfl (by kernel_rfl) (by kernel_rfl) (by kernel_rfl) (fun _ _ _ h => h) (yields_row (by kernel_rfl) 24 _ rfl (w.heap.size) rfl 24 (rval m a c) (0, 0) _ (fun _ h => h.1) Tryd.underlying24 rfl (HIR.out _ _)) hHeld6 ?_
  simp only [Act.put, List.getElem_toArray, List.getElem_cons_succ, List.getElem_cons_zero, List.setIfInBounds_toArray, List.set_cons_zero, List.set_cons_succ]
  change wpAnyH _ _ _ _ _ 3 #[true, true, true, true, true, true, true, true, true, true, true, true, true, true, true, true, true, true, true, true, true, true, true, true, true, true, true, true, true, true, true, true, true, true, true, true, false, false, false] _ _
  refine wpAnyH_ready (rs := [36]) (by kernel_rfl) (by simp) ?_
  refine AllReadyH.cons rfl (fun K hK => ?_) AllReadyH.nil
  simp only [List.getElem_toArray, List.getElem_cons_succ, List.getElem_cons_zero]
  refine (if_pos (by kernel_rfl)).mpr ?_
  go_wp2_with fail
  refine (HSA.out _ _ _ _ _ (hHeld6).2.2.2.2.2 (HV.out.keep (hHeld6).2.2.2.2.1)).mono ?_
  rintro e wx6 ⟨rfl, hfx6⟩
  dsimp only
  refine hK.out _ _ (⟨hfx6.keep (hHeld6).1 (fun h => h), hfx6.keep (hHeld6).2.1 (fun h => h), hfx6.keep (hHeld6).2.2.1 (fun h => h), hfx6.keep (hHeld6).2.2.2.1 (fun h => h), (hHeld6).2.2.2.2.1.then0 hfx6, (hHeld6).2.2.2.2.2.keep hfx6⟩) (fun hHeld7 => ?_)
  clear hK K hHeld6
  change wpAnyH _ _ _ _ _ 2 #[true, true, true, true, true, true, true, true, true, true, true, true, true, true, true, true, true, true, true, true, true, true, true, true, true, true, true, true, true, true, true, true, true, true, true, true, true, false, false] _ _
  refine wpAnyH_take (i := 37) (v := .bool true) rfl (by kernel_rfl) (by kernel_rfl) (by kernel_rfl) (fun _ _ _ h => h) (Or.inl ⟨by kernel_rfl, fun w hSw => by first | kernel_rfl | (go_simp; done)⟩) hHeld7 ?_
  simp only [Act.put, List.getElem_toArray, List.getElem_cons_succ, List.getElem_cons_zero, List.setIfInBounds_toArray, List.set_cons_zero, List.set_cons_succ]
  change wpAnyH _ _ _ _ _ 1 #[true, true, true, true, true, true, true, true, true, true, true, true, true, true, true, true, true, true, true, true, true, true, true, true, true, true, true, true, true, true, true, true, true, true, true, true, true, true, false] _ _
  refine wpAnyH_take (i := 38) (v := .bool true) rfl (by kernel_rfl) (by kernel_rfl) (by kernel_rfl) (fun _ _ _ h => h) (Or.inl ⟨by kernel_rfl, fun w hSw => by first | kernel_rfl | (go_simp; done)⟩) hHeld7 ?_
  simp only [Act.put, List.getElem_toArray, List.getElem_cons_succ, List.getElem_cons_zero, List.setIfInBounds_toArray, List.set_cons_zero, List.set_cons_succ]
  change wpAnyH _ _ _ _ _ 0 #[true, true, true, true, true, true, true, true, true, true, true, true, true, true, true, true, true, true, true, true, true, true, true, true, true, true, true, true, true, true, true, true, true, true, true, true, true, true, true] _ _
  refine wpAnyH_done (by kernel_rfl) ?_ _
  refine NoPanic.normal ?_
  have HEND := Lib.hid hHeld7
  clear hHeld7
  go_wp2
  go_ret
  exact ⟨rfl, HEND.out.2.2.2.2.1⟩


end Go.Proofs.YtlleandelcjhjaaDoor.RmPutsLaw
