/- The law InodePuts, walked. -/
import Derived.Test.YtfjkbabeceaelaaInoAlive
import Derived.Test.YtfjkbabeceaelaaInoRPut
import Derived.Test.YtfjkbabeceaelaaInoStat
set_option linter.unusedVariables false
set_option linter.unusedSimpArgs false
namespace Go.Proofs.Ytfjkbabeceaelaa.InoPutLaw
open Go Go.RowKit Go.Proofs.Ytfjkbabeceaelaa.K Go.Proofs.Ytfjkbabeceaelaa.EqKit Go.Proofs.Ytfjkbabeceaelaa.PtrKit Go.Proofs.Ytfjkbabeceaelaa.ArrKit Go.Proofs.Ytfjkbabeceaelaa.HeldKit Go.Proofs.Ytfjkbabeceaelaa.PtrAsk Go.Proofs.Ytfjkbabeceaelaa.PtrRRight Go.Proofs.Ytfjkbabeceaelaa.ShaStep Go.Proofs.Ytfjkbabeceaelaa.ShaSum Go.Proofs.Ytfjkbabeceaelaa.PtrOf Go.Proofs.Ytfjkbabeceaelaa.PtrROf Go.Proofs.Ytfjkbabeceaelaa.WordPut Go.Proofs.Ytfjkbabeceaelaa.WordTake Go.Proofs.Ytfjkbabeceaelaa.InoKit Go.Proofs.Ytfjkbabeceaelaa.InoRRight Go.Proofs.Ytfjkbabeceaelaa.InoNew Go.Proofs.Ytfjkbabeceaelaa.InoPut Go.Proofs.Ytfjkbabeceaelaa.InoRPut Go.Proofs.Ytfjkbabeceaelaa.InoStat Go.Proofs.Ytfjkbabeceaelaa.InoEq Go.Proofs.Ytfjkbabeceaelaa.InoAlive

theorem cells_tt : Try.prog.cellsOf 42 = 6 := by kernel_rfl
theorem lits_six {a b c d e f : Int} (ha : (Lit.int .i64 a).wf = true) (hb : (Lit.int .i64 b).wf = true) (hc : (Lit.int .i64 c).wf = true) (hd : (Lit.int .i64 d).wf = true) (he : (Lit.int .i64 e).wf = true) (hf : (Lit.int .i64 f).wf = true) : Try.prog.keyLits 2 42 [.int .i64 a, .int .i64 b, .int .i64 c, .int .i64 d, .int .i64 e, .int .i64 f] = some [Lit.int .i64 a, Lit.int .i64 b, Lit.int .i64 c, Lit.int .i64 d, Lit.int .i64 e, Lit.int .i64 f] := by
  unfold Program.keyLits
  rw [Try.underlying42]
  simp [cells_tt, cells_i, lits_int 0 Try.underlying3 ha, lits_int 0 Try.underlying3 hb, lits_int 0 Try.underlying3 hc, lits_int 0 Try.underlying3 hd, lits_int 0 Try.underlying3 he, lits_int 0 Try.underlying3 hf]
theorem guard_t : Try.prog.eqGuardType Try.prog.depth 42 = false := by kernel_rfl
theorem eq_six {a b c d e f : Int} (ha : (Lit.int .i64 a).wf = true) (hb : (Lit.int .i64 b).wf = true) (hc : (Lit.int .i64 c).wf = true) (hd : (Lit.int .i64 d).wf = true) (he : (Lit.int .i64 e).wf = true) (hf : (Lit.int .i64 f).wf = true) (W : World) : (Op.equalIn 10000 42 (.agg #[.int .i64 a, .int .i64 b, .int .i64 c, .int .i64 d, .int .i64 e, .int .i64 f]) (.agg #[.int .i64 a, .int .i64 b, .int .i64 c, .int .i64 d, .int .i64 e, .int .i64 f])).run Try.prog W = .ok true W := by
  have hfm : (Value.agg #[.int .i64 a, .int .i64 b, .int .i64 c, .int .i64 d, .int .i64 e, .int .i64 f]).formed Try.prog 42 = true := by simp [Value.formed, Try.underlying42, cells_tt]
  have hk := lits_six ha hb hc hd he hf
  obtain ⟨r, hr, hiff⟩ := run_equalIn_deep 9998 2 42 (by kernel_rfl) W 2 2 (.agg #[.int .i64 a, .int .i64 b, .int .i64 c, .int .i64 d, .int .i64 e, .int .i64 f]) (.agg #[.int .i64 a, .int .i64 b, .int .i64 c, .int .i64 d, .int .i64 e, .int .i64 f]) _ _ hfm hfm hk hk
  rw [show (10000 : Nat) = 9998 + 2 from rfl, hr]
  congr 1
  rw [hiff]
theorem eq_stX {x : NV} (h : x.ok) {b : Int} (hb : (Lit.int .i64 b).wf = true) (W : World) : (Op.equalIn 10000 42 (.agg (stX x b)) (.agg (stX x b))).run Try.prog W = .ok true W := by
  unfold stX
  split
  · exact eq_six h.wn h.wk h.wc h.wl h.ws hb W
  · exact eq_six (by decide) (by decide) (by decide) (by decide) (by decide) (by decide) W
set_option maxHeartbeats 2000000 in
set_option maxRecDepth 100000 in
theorem puts_all (x : NV) (b : Int) (w : World) (hx : x.ok) (hb : (Lit.int .i64 b).wf = true) : Calls Try.prog 6 #[.agg x.cells.toArray, .int .i64 b] w fun e w' => e = .returned (.bool true) ∧ Fr0 w w' := by
  have HPUT : Hid (∀ W : World, Calls Try.prog 12 #[.agg x.cells.toArray] W fun e w' => e = .returned (.tuple #[.agg ((ipX x).map B).toArray, .int .i64 (ipE x)]) ∧ Fr0 W w') := Lib.hid (fun W => put_calls x W hx)
  have HRPUT : Hid (∀ W : World, Calls Try.prog 14 #[.agg x.cells.toArray] W fun e w' => e = .returned (.tuple #[.agg ((ipX x).map B).toArray, .int .i64 (ipE x)]) ∧ Fr0 W w') := Lib.hid (fun W => rput_calls x W hx)
  have HSTAT : Hid (∀ W : World, Calls Try.prog 15 #[.agg x.cells.toArray, .int .i64 b] W fun e w' => e = .returned (.tuple #[.agg (stX x b), .int .i64 (stE x b)]) ∧ Fr0 W w') := Lib.hid (fun W => stat_calls x b W hx)
  have HRSTAT : Hid (∀ W : World, Calls Try.prog 16 #[.agg x.cells.toArray, .int .i64 b] W fun e w' => e = .returned (.tuple #[.agg (stX x b), .int .i64 (stE x b)]) ∧ Fr0 W w') := Lib.hid (fun W => rstat_calls x b W hx)
  have HRI : Hid (∀ W : World, Calls Try.prog 17 #[.agg x.cells.toArray] W fun e w' => e = .returned (.bool (nR x)) ∧ Fr0 W w') := Lib.hid (fun W => nright_calls x W hx)
  have HRRI : Hid (∀ W : World, Calls Try.prog 13 #[.agg x.cells.toArray] W fun e w' => e = .returned (.bool (nR x)) ∧ Fr0 W w') := Lib.hid (fun W => nrright_calls x W hx)
  have hpl := ipX_length hx
  have HIX : Hid ((Try.prog.info? 30).map (·.size) = some x.cells.toArray.size) := Lib.hid (by rw [info_n, List.size_toArray, NV.cells_length hx])
  have HIP : Hid ((Try.prog.info? 22).map (·.size) = some ((ipX x).map B).toArray.size) := Lib.hid (by rw [infoB, List.size_toArray, List.length_map, hpl])
  have HZP : Hid (ZB.size = ((ipX x).map B).toArray.size) := Lib.hid ((show ZB.size = 64 by simp [ZB, Z64]).trans (by rw [List.size_toArray, List.length_map, hpl]))
  have HOP : Hid (((ipX x).map B).toArray.all (·.oneCell') = true) := Lib.hid (by simp [B, Value.oneCell'])
  have hss : (stX x b).size = 6 ∧ (stX x b).all (·.oneCell') = true := by
    unfold stX
    split
    · exact ⟨rfl, TS_one x b⟩
    · exact ⟨rfl, ZT_one⟩
  have HIQ : Hid ((Try.prog.info? 42).map (·.size) = some (stX x b).size) := Lib.hid (by rw [info_t, hss.1])
  have HZQ : Hid (ZT.size = (stX x b).size) := Lib.hid (hss.1 ▸ rfl)
  have HOQ : Hid ((stX x b).all (·.oneCell') = true) := Lib.hid hss.2
  have heqb : ∀ W, (Op.equalIn 10000 22 (.agg ((ipX x).map B).toArray) (.agg ((ipX x).map B).toArray)).run Try.prog W = .ok true W := fun W => by
    have := eq_bytes (P := Try.prog) Try.underlying22 Try.underlying5 (by kernel_rfl) (by kernel_rfl) (by kernel_rfl) (ipX x) (ipX x) hpl hpl W
    rwa [decide_eq_true (rfl : ipX x = ipX x)] at this
  have heqt : ∀ W, (Op.equalIn 10000 42 (.agg (stX x b)) (.agg (stX x b))).run Try.prog W = .ok true W := fun W => eq_stX hx hb W
  generalize ((ipX x).map B).toArray = P at *
  generalize ipE x = E1 at *
  generalize stX x b = Q at *
  generalize stE x b = E2 at *
  generalize nR x = R at *
  clear hpl hss hx hb
  generalize x.cells.toArray = X at *
  have hE1 : (E1 == E1) = true := beq_self_eq_true E1
  have hE2 : (E2 == E2) = true := beq_self_eq_true E2
  have hRR : (R == R) = true := by cases R <;> rfl
  have hzb : ∀ W, (zeroValue 22).run Try.prog W = .ok (.agg ZB) W := by intro W; kernel_rfl
  have hzt : ∀ W, (zeroValue 42).run Try.prog W = .ok (.agg ZT) W := by intro W; kernel_rfl
  have HF_w0 : Hid (Fr0 w (w.alloc (.cells X 30))) := Lib.hid (Fr.alloc (Fr.refl _ _) _)
  have HX_w0 : Hid (Bk (w.alloc (.cells X 30)) w.heap.size X 30) := Lib.hid (Bk.new w _)
  go_enter Try.func6, Try.ntmps6
  go_wp2_with (first | (go_at_call 7; (with_reducible refine (alive_calls _).mono ?_); rintro e w1 ⟨rfl, hf⟩; have HF_w1 := Lib.hid (HF_w0.out.then0 hf); have HX_w1 := Lib.hid (hf.keep HX_w0.out (fun h => h)); clear hf) | (go_at_call 12; (with_reducible refine (HPUT.out _).mono ?_); rintro e w2 ⟨rfl, hf⟩; have HF_w2 := Lib.hid (HF_w1.out.then0 hf); have HX_w2 := Lib.hid (hf.keep HX_w1.out (fun h => h)); have HZ_w2 : Hid (Bk (w2.alloc (.cells ZB 22)) w2.heap.size ZB 22) := Lib.hid (Bk.new _ _); clear hf) | (refine wpList_store_row rfl 22 _ _ rfl w2.heap.size P rfl rfl 22 ZB HZ_w2.out HIP.out HZP.out HOP.out ?_; change wpList _ _ _ _ _ ((w2.alloc (.cells ZB 22)).setRow w2.heap.size P); have hfx : Fr0 w2 ((w2.alloc (.cells ZB 22)).setRow w2.heap.size P) := ArrKit.Fr.row (Fr.alloc (Fr.refl _ _) _) _ _ (.inl (Nat.le_refl _)); have HA_w3 : Hid (Bk ((w2.alloc (.cells ZB 22)).setRow w2.heap.size P) w2.heap.size P 22) := Lib.hid (ArrKit.Bk.row HZ_w2.out _); have HF_w3 := Lib.hid (HF_w2.out.then0 hfx); have HX_w3 := Lib.hid (hfx.keep HX_w2.out (fun h => h)); clear hfx; generalize ((w2.alloc (.cells ZB 22)).setRow w2.heap.size P) = w3 at *; generalize w2.heap.size = J1 at *) | (go_at_call 14; (with_reducible refine (HRPUT.out _).mono ?_); rintro e w4 ⟨rfl, hf⟩; have HF_w4 := Lib.hid (HF_w3.out.then0 hf); have HX_w4 := Lib.hid (hf.keep HX_w3.out (fun h => h)); have HA_w4 := Lib.hid (hf.keep HA_w3.out (fun h => h)); have HZ_w4 : Hid (Bk (w4.alloc (.cells ZB 22)) w4.heap.size ZB 22) := Lib.hid (Bk.new _ _); clear hf) | (refine wpList_store_row rfl 22 _ _ rfl w4.heap.size P rfl rfl 22 ZB HZ_w4.out HIP.out HZP.out HOP.out ?_; change wpList _ _ _ _ _ ((w4.alloc (.cells ZB 22)).setRow w4.heap.size P); have hfx : Fr0 w4 ((w4.alloc (.cells ZB 22)).setRow w4.heap.size P) := ArrKit.Fr.row (Fr.alloc (Fr.refl _ _) _) _ _ (.inl (Nat.le_refl _)); have HB_w5 : Hid (Bk ((w4.alloc (.cells ZB 22)).setRow w4.heap.size P) w4.heap.size P 22) := Lib.hid (ArrKit.Bk.row HZ_w4.out _); have HF_w5 := Lib.hid (HF_w4.out.then0 hfx); have HX_w5 := Lib.hid (hfx.keep HX_w4.out (fun h => h)); have HA_w5 := Lib.hid (hfx.keep HA_w4.out (fun h => h)); clear hfx; generalize ((w4.alloc (.cells ZB 22)).setRow w4.heap.size P) = w5 at *; generalize w4.heap.size = J2 at *) | (go_at_call 15; (with_reducible refine (HSTAT.out _).mono ?_); rintro e w6 ⟨rfl, hf⟩; have HF_w6 := Lib.hid (HF_w5.out.then0 hf); have HX_w6 := Lib.hid (hf.keep HX_w5.out (fun h => h)); have HA_w6 := Lib.hid (hf.keep HA_w5.out (fun h => h)); have HB_w6 := Lib.hid (hf.keep HB_w5.out (fun h => h)); have HZ_w6 : Hid (Bk (w6.alloc (.cells ZT 42)) w6.heap.size ZT 42) := Lib.hid (Bk.new _ _); clear hf) | (refine wpList_store_row rfl 42 _ _ rfl w6.heap.size Q rfl rfl 42 ZT HZ_w6.out HIQ.out HZQ.out HOQ.out ?_; change wpList _ _ _ _ _ ((w6.alloc (.cells ZT 42)).setRow w6.heap.size Q); have hfx : Fr0 w6 ((w6.alloc (.cells ZT 42)).setRow w6.heap.size Q) := ArrKit.Fr.row (Fr.alloc (Fr.refl _ _) _) _ _ (.inl (Nat.le_refl _)); have HC_w7 : Hid (Bk ((w6.alloc (.cells ZT 42)).setRow w6.heap.size Q) w6.heap.size Q 42) := Lib.hid (ArrKit.Bk.row HZ_w6.out _); have HF_w7 := Lib.hid (HF_w6.out.then0 hfx); have HX_w7 := Lib.hid (hfx.keep HX_w6.out (fun h => h)); have HA_w7 := Lib.hid (hfx.keep HA_w6.out (fun h => h)); have HB_w7 := Lib.hid (hfx.keep HB_w6.out (fun h => h)); clear hfx; generalize ((w6.alloc (.cells ZT 42)).setRow w6.heap.size Q) = w7 at *; generalize w6.heap.size = J3 at *) | (go_at_call 16; (with_reducible refine (HRSTAT.out _).mono ?_); rintro e w8 ⟨rfl, hf⟩; have HF_w8 := Lib.hid (HF_w7.out.then0 hf); have HX_w8 := Lib.hid (hf.keep HX_w7.out (fun h => h)); have HA_w8 := Lib.hid (hf.keep HA_w7.out (fun h => h)); have HB_w8 := Lib.hid (hf.keep HB_w7.out (fun h => h)); have HC_w8 := Lib.hid (hf.keep HC_w7.out (fun h => h)); have HZ_w8 : Hid (Bk (w8.alloc (.cells ZT 42)) w8.heap.size ZT 42) := Lib.hid (Bk.new _ _); clear hf) | (refine wpList_store_row rfl 42 _ _ rfl w8.heap.size Q rfl rfl 42 ZT HZ_w8.out HIQ.out HZQ.out HOQ.out ?_; change wpList _ _ _ _ _ ((w8.alloc (.cells ZT 42)).setRow w8.heap.size Q); have hfx : Fr0 w8 ((w8.alloc (.cells ZT 42)).setRow w8.heap.size Q) := ArrKit.Fr.row (Fr.alloc (Fr.refl _ _) _) _ _ (.inl (Nat.le_refl _)); have HD_w9 : Hid (Bk ((w8.alloc (.cells ZT 42)).setRow w8.heap.size Q) w8.heap.size Q 42) := Lib.hid (ArrKit.Bk.row HZ_w8.out _); have HF_w9 := Lib.hid (HF_w8.out.then0 hfx); have HX_w9 := Lib.hid (hfx.keep HX_w8.out (fun h => h)); have HA_w9 := Lib.hid (hfx.keep HA_w8.out (fun h => h)); have HB_w9 := Lib.hid (hfx.keep HB_w8.out (fun h => h)); have HC_w9 := Lib.hid (hfx.keep HC_w8.out (fun h => h)); clear hfx; generalize ((w8.alloc (.cells ZT 42)).setRow w8.heap.size Q) = w9 at *; generalize w8.heap.size = J4 at *) | ((with_reducible show wpList _ _ _ ({ dst := _, op := Op.load 30 _, type := _, pos := _, after := _, guard := _ } :: _) _ _); refine wpList_load_row_g (by rfl) 30 _ rfl w.heap.size rfl 30 X (0, 0) _ HX_w7.out Try.underlying30 rfl HIX.out ?_) | ((with_reducible show wpList _ _ _ ({ dst := _, op := Op.load 30 _, type := _, pos := _, after := _, guard := _ } :: _) _ _); refine wpList_load_row_g (by rfl) 30 _ rfl w.heap.size rfl 30 X (0, 0) _ HX_w5.out Try.underlying30 rfl HIX.out ?_) | ((with_reducible show wpList _ _ _ ({ dst := _, op := Op.load 30 _, type := _, pos := _, after := _, guard := _ } :: _) _ _); refine wpList_load_row_g (by rfl) 30 _ rfl w.heap.size rfl 30 X (0, 0) _ HX_w3.out Try.underlying30 rfl HIX.out ?_) | ((with_reducible show wpList _ _ _ ({ dst := _, op := Op.load 30 _, type := _, pos := _, after := _, guard := _ } :: _) _ _); refine wpList_load_row_g (by rfl) 30 _ rfl w.heap.size rfl 30 X (0, 0) _ HX_w1.out Try.underlying30 rfl HIX.out ?_))
  have H9 : Hid (Held w [(J1, .cells P 22 (0, 0)), (J2, .cells P 22 (0, 0)), (J3, .cells Q 42 (0, 0)), (J4, .cells Q 42 (0, 0)), (w.heap.size, .cells X 30 (0, 0))] w9) := Lib.hid (Held.cons HA_w9.out (Held.cons HB_w9.out (Held.cons HC_w9.out (Held.cons HD_w9.out (Held.cons HX_w9.out (Held.nil HF_w9.out))))))
  refine wp_region_noPanic ?_
  refine wp_region_held_drew (S := (Held w [(J1, .cells P 22 (0, 0)), (J2, .cells P 22 (0, 0)), (J3, .cells Q 42 (0, 0)), (J4, .cells Q 42 (0, 0)), (w.heap.size, .cells X 30 (0, 0))])) (by kernel_rfl) (Held.drew H9.out) (fun hHeld0 => ?_)
  change wpAnyH _ _ _ _ _ 26 #[false, false, false, false, false, false, false, false, false, false, false, false, false, false, false, false, false, false, false, false, false, false, false, false, false, false] _ _
  refine wpAnyH_take (i := 0) (v := .agg P) rfl (by kernel_rfl) (by kernel_rfl) (by kernel_rfl) (fun _ _ _ h => h) (yields_row (by kernel_rfl) 22 _ rfl (J1) rfl 22 P (0, 0) _ (fun w h => Held.a0 h) Try.underlying22 rfl HIP.out) hHeld0 ?_
  simp only [Act.put, List.getElem_toArray, List.getElem_cons_succ, List.getElem_cons_zero, List.setIfInBounds_toArray, List.set_cons_zero, List.set_cons_succ]
  change wpAnyH _ _ _ _ _ 25 #[true, false, false, false, false, false, false, false, false, false, false, false, false, false, false, false, false, false, false, false, false, false, false, false, false, false] _ _
  refine wpAnyH_take (i := 1) (v := .agg P) rfl (by kernel_rfl) (by kernel_rfl) (by kernel_rfl) (fun _ _ _ h => h) (yields_row (by kernel_rfl) 22 _ rfl (J2) rfl 22 P (0, 0) _ (fun w h => Held.a0 (Held.tl h)) Try.underlying22 rfl HIP.out) hHeld0 ?_
  simp only [Act.put, List.getElem_toArray, List.getElem_cons_succ, List.getElem_cons_zero, List.setIfInBounds_toArray, List.set_cons_zero, List.set_cons_succ]
  change wpAnyH _ _ _ _ _ 24 #[true, true, false, false, false, false, false, false, false, false, false, false, false, false, false, false, false, false, false, false, false, false, false, false, false, false] _ _
  refine wpAnyH_take (i := 2) (v := .bool true) rfl (by kernel_rfl) (by kernel_rfl) (by kernel_rfl) (fun _ _ _ h => h) (Or.inl ⟨by kernel_rfl, fun w hSw => run_eql_op rfl rfl rfl guard_b heqb w⟩) hHeld0 ?_
  simp only [Act.put, List.getElem_toArray, List.getElem_cons_succ, List.getElem_cons_zero, List.setIfInBounds_toArray, List.set_cons_zero, List.set_cons_succ]
  change wpAnyH _ _ _ _ _ 23 #[true, true, true, false, false, false, false, false, false, false, false, false, false, false, false, false, false, false, false, false, false, false, false, false, false, false] _ _
  refine wpAnyH_take (i := 3) (v := .bool true) rfl (by kernel_rfl) (by kernel_rfl) (by kernel_rfl) (fun _ _ _ h => h) (Or.inl ⟨by kernel_rfl, fun w hSw => by first | kernel_rfl | (go_simp; done)⟩) hHeld0 ?_
  simp only [Act.put, List.getElem_toArray, List.getElem_cons_succ, List.getElem_cons_zero, List.setIfInBounds_toArray, List.set_cons_zero, List.set_cons_succ]
  change wpAnyH _ _ _ _ _ 22 #[true, true, true, true, false, false, false, false, false, false, false, false, false, false, false, false, false, false, false, false, false, false, false, false, false, false] _ _
  refine wpAnyH_take (i := 4) (v := .int .i64 E1) rfl (by kernel_rfl) (by kernel_rfl) (by kernel_rfl) (fun _ _ _ h => h) (Or.inl ⟨by kernel_rfl, fun w hSw => by first | kernel_rfl | (go_simp; done)⟩) hHeld0 ?_
  simp only [Act.put, List.getElem_toArray, List.getElem_cons_succ, List.getElem_cons_zero, List.setIfInBounds_toArray, List.set_cons_zero, List.set_cons_succ]
  change wpAnyH _ _ _ _ _ 21 #[true, true, true, true, true, false, false, false, false, false, false, false, false, false, false, false, false, false, false, false, false, false, false, false, false, false] _ _
  refine wpAnyH_take (i := 5) (v := .int .i64 E1) rfl (by kernel_rfl) (by kernel_rfl) (by kernel_rfl) (fun _ _ _ h => h) (Or.inl ⟨by kernel_rfl, fun w hSw => by first | kernel_rfl | (go_simp; done)⟩) hHeld0 ?_
  simp only [Act.put, List.getElem_toArray, List.getElem_cons_succ, List.getElem_cons_zero, List.setIfInBounds_toArray, List.set_cons_zero, List.set_cons_succ]
  change wpAnyH _ _ _ _ _ 20 #[true, true, true, true, true, true, false, false, false, false, false, false, false, false, false, false, false, false, false, false, false, false, false, false, false, false] _ _
  refine wpAnyH_take (i := 6) (v := .bool true) rfl (by kernel_rfl) (by kernel_rfl) (by kernel_rfl) (fun _ _ _ h => h) (Or.inl ⟨by kernel_rfl, fun w hSw => by go_simp <;> (first | exact beq_iff_eq.1 (by assumption) | exact beq_eq_false_iff_ne.1 (by assumption) | omega)⟩) hHeld0 ?_
  simp only [Act.put, List.getElem_toArray, List.getElem_cons_succ, List.getElem_cons_zero, List.setIfInBounds_toArray, List.set_cons_zero, List.set_cons_succ]
  change wpAnyH _ _ _ _ _ 19 #[true, true, true, true, true, true, true, false, false, false, false, false, false, false, false, false, false, false, false, false, false, false, false, false, false, false] _ _
  refine wpAnyH_take (i := 7) (v := .bool true) rfl (by kernel_rfl) (by kernel_rfl) (by kernel_rfl) (fun _ _ _ h => h) (Or.inl ⟨by kernel_rfl, fun w hSw => by first | kernel_rfl | (go_simp; done)⟩) hHeld0 ?_
  simp only [Act.put, List.getElem_toArray, List.getElem_cons_succ, List.getElem_cons_zero, List.setIfInBounds_toArray, List.set_cons_zero, List.set_cons_succ]
  change wpAnyH _ _ _ _ _ 18 #[true, true, true, true, true, true, true, true, false, false, false, false, false, false, false, false, false, false, false, false, false, false, false, false, false, false] _ _
  refine wpAnyH_take (i := 8) (v := .bool true) rfl (by kernel_rfl) (by kernel_rfl) (by kernel_rfl) (fun _ _ _ h => h) (Or.inl ⟨by kernel_rfl, fun w hSw => by first | kernel_rfl | (go_simp; done)⟩) hHeld0 ?_
  simp only [Act.put, List.getElem_toArray, List.getElem_cons_succ, List.getElem_cons_zero, List.setIfInBounds_toArray, List.set_cons_zero, List.set_cons_succ]
  change wpAnyH _ _ _ _ _ 17 #[true, true, true, true, true, true, true, true, true, false, false, false, false, false, false, false, false, false, false, false, false, false, false, false, false, false] _ _
  refine wpAnyH_take (i := 9) (v := .agg Q) rfl (by kernel_rfl) (by kernel_rfl) (by kernel_rfl) (fun _ _ _ h => h) (yields_row (by kernel_rfl) 42 _ rfl (J3) rfl 42 Q (0, 0) _ (fun w h => Held.a0 (Held.tl (Held.tl h))) Try.underlying42 rfl HIQ.out) hHeld0 ?_
  simp only [Act.put, List.getElem_toArray, List.getElem_cons_succ, List.getElem_cons_zero, List.setIfInBounds_toArray, List.set_cons_zero, List.set_cons_succ]
  change wpAnyH _ _ _ _ _ 16 #[true, true, true, true, true, true, true, true, true, true, false, false, false, false, false, false, false, false, false, false, false, false, false, false, false, false] _ _
  refine wpAnyH_take (i := 10) (v := .agg Q) rfl (by kernel_rfl) (by kernel_rfl) (by kernel_rfl) (fun _ _ _ h => h) (yields_row (by kernel_rfl) 42 _ rfl (J4) rfl 42 Q (0, 0) _ (fun w h => Held.a0 (Held.tl (Held.tl (Held.tl h)))) Try.underlying42 rfl HIQ.out) hHeld0 ?_
  simp only [Act.put, List.getElem_toArray, List.getElem_cons_succ, List.getElem_cons_zero, List.setIfInBounds_toArray, List.set_cons_zero, List.set_cons_succ]
  change wpAnyH _ _ _ _ _ 15 #[true, true, true, true, true, true, true, true, true, true, true, false, false, false, false, false, false, false, false, false, false, false, false, false, false, false] _ _
  refine wpAnyH_take (i := 11) (v := .bool true) rfl (by kernel_rfl) (by kernel_rfl) (by kernel_rfl) (fun _ _ _ h => h) (Or.inl ⟨by kernel_rfl, fun w hSw => run_eql_op rfl rfl rfl guard_t heqt w⟩) hHeld0 ?_
  simp only [Act.put, List.getElem_toArray, List.getElem_cons_succ, List.getElem_cons_zero, List.setIfInBounds_toArray, List.set_cons_zero, List.set_cons_succ]
  change wpAnyH _ _ _ _ _ 14 #[true, true, true, true, true, true, true, true, true, true, true, true, false, false, false, false, false, false, false, false, false, false, false, false, false, false] _ _
  refine wpAnyH_take (i := 12) (v := .bool true) rfl (by kernel_rfl) (by kernel_rfl) (by kernel_rfl) (fun _ _ _ h => h) (Or.inl ⟨by kernel_rfl, fun w hSw => by first | kernel_rfl | (go_simp; done)⟩) hHeld0 ?_
  simp only [Act.put, List.getElem_toArray, List.getElem_cons_succ, List.getElem_cons_zero, List.setIfInBounds_toArray, List.set_cons_zero, List.set_cons_succ]
  change wpAnyH _ _ _ _ _ 13 #[true, true, true, true, true, true, true, true, true, true, true, true, true, false, false, false, false, false, false, false, false, false, false, false, false, false] _ _
  refine wpAnyH_take (i := 13) (v := .bool true) rfl (by kernel_rfl) (by kernel_rfl) (by kernel_rfl) (fun _ _ _ h => h) (Or.inl ⟨by kernel_rfl, fun w hSw => by first | kernel_rfl | (go_simp; done)⟩) hHeld0 ?_
  simp only [Act.put, List.getElem_toArray, List.getElem_cons_succ, List.getElem_cons_zero, List.setIfInBounds_toArray, List.set_cons_zero, List.set_cons_succ]
  change wpAnyH _ _ _ _ _ 12 #[true, true, true, true, true, true, true, true, true, true, true, true, true, true, false, false, false, false, false, false, false, false, false, false, false, false] _ _
  refine wpAnyH_take (i := 14) (v := .int .i64 E2) rfl (by kernel_rfl) (by kernel_rfl) (by kernel_rfl) (fun _ _ _ h => h) (Or.inl ⟨by kernel_rfl, fun w hSw => by first | kernel_rfl | (go_simp; done)⟩) hHeld0 ?_
  simp only [Act.put, List.getElem_toArray, List.getElem_cons_succ, List.getElem_cons_zero, List.setIfInBounds_toArray, List.set_cons_zero, List.set_cons_succ]
  change wpAnyH _ _ _ _ _ 11 #[true, true, true, true, true, true, true, true, true, true, true, true, true, true, true, false, false, false, false, false, false, false, false, false, false, false] _ _
  refine wpAnyH_take (i := 15) (v := .int .i64 E2) rfl (by kernel_rfl) (by kernel_rfl) (by kernel_rfl) (fun _ _ _ h => h) (Or.inl ⟨by kernel_rfl, fun w hSw => by first | kernel_rfl | (go_simp; done)⟩) hHeld0 ?_
  simp only [Act.put, List.getElem_toArray, List.getElem_cons_succ, List.getElem_cons_zero, List.setIfInBounds_toArray, List.set_cons_zero, List.set_cons_succ]
  change wpAnyH _ _ _ _ _ 10 #[true, true, true, true, true, true, true, true, true, true, true, true, true, true, true, true, false, false, false, false, false, false, false, false, false, false] _ _
  refine wpAnyH_take (i := 16) (v := .bool true) rfl (by kernel_rfl) (by kernel_rfl) (by kernel_rfl) (fun _ _ _ h => h) (Or.inl ⟨by kernel_rfl, fun w hSw => by go_simp <;> (first | exact beq_iff_eq.1 (by assumption) | exact beq_eq_false_iff_ne.1 (by assumption) | omega)⟩) hHeld0 ?_
  simp only [Act.put, List.getElem_toArray, List.getElem_cons_succ, List.getElem_cons_zero, List.setIfInBounds_toArray, List.set_cons_zero, List.set_cons_succ]
  change wpAnyH _ _ _ _ _ 9 #[true, true, true, true, true, true, true, true, true, true, true, true, true, true, true, true, true, false, false, false, false, false, false, false, false, false] _ _
  refine wpAnyH_take (i := 17) (v := .bool true) rfl (by kernel_rfl) (by kernel_rfl) (by kernel_rfl) (fun _ _ _ h => h) (Or.inl ⟨by kernel_rfl, fun w hSw => by first | kernel_rfl | (go_simp; done)⟩) hHeld0 ?_
  simp only [Act.put, List.getElem_toArray, List.getElem_cons_succ, List.getElem_cons_zero, List.setIfInBounds_toArray, List.set_cons_zero, List.set_cons_succ]
  change wpAnyH _ _ _ _ _ 8 #[true, true, true, true, true, true, true, true, true, true, true, true, true, true, true, true, true, true, false, false, false, false, false, false, false, false] _ _
  refine wpAnyH_take (i := 18) (v := .bool true) rfl (by kernel_rfl) (by kernel_rfl) (by kernel_rfl) (fun _ _ _ h => h) (Or.inl ⟨by kernel_rfl, fun w hSw => by first | kernel_rfl | (go_simp; done)⟩) hHeld0 ?_
  simp only [Act.put, List.getElem_toArray, List.getElem_cons_succ, List.getElem_cons_zero, List.setIfInBounds_toArray, List.set_cons_zero, List.set_cons_succ]
  change wpAnyH _ _ _ _ _ 7 #[true, true, true, true, true, true, true, true, true, true, true, true, true, true, true, true, true, true, true, false, false, false, false, false, false, false] _ _
  refine wpAnyH_take (i := 19) (v := .agg X) rfl (by kernel_rfl) (by kernel_rfl) (by kernel_rfl) (fun _ _ _ h => h) (yields_row (by kernel_rfl) 30 _ rfl (w.heap.size) rfl 30 X (0, 0) _ (fun w h => Held.a0 (Held.tl (Held.tl (Held.tl (Held.tl h))))) Try.underlying30 rfl HIX.out) hHeld0 ?_
  simp only [Act.put, List.getElem_toArray, List.getElem_cons_succ, List.getElem_cons_zero, List.setIfInBounds_toArray, List.set_cons_zero, List.set_cons_succ]
  change wpAnyH _ _ _ _ _ 6 #[true, true, true, true, true, true, true, true, true, true, true, true, true, true, true, true, true, true, true, true, false, false, false, false, false, false] _ _
  refine wpAnyH_take (i := 21) (v := .agg X) rfl (by kernel_rfl) (by kernel_rfl) (by kernel_rfl) (fun _ _ _ h => h) (yields_row (by kernel_rfl) 30 _ rfl (w.heap.size) rfl 30 X (0, 0) _ (fun w h => Held.a0 (Held.tl (Held.tl (Held.tl (Held.tl h))))) Try.underlying30 rfl HIX.out) hHeld0 ?_
  simp only [Act.put, List.getElem_toArray, List.getElem_cons_succ, List.getElem_cons_zero, List.setIfInBounds_toArray, List.set_cons_zero, List.set_cons_succ]
  change wpAnyH _ _ _ _ _ 5 #[true, true, true, true, true, true, true, true, true, true, true, true, true, true, true, true, true, true, true, true, false, true, false, false, false, false] _ _
  refine wpAnyH_ready (rs := [20]) (by kernel_rfl) (by simp) ?_
  refine AllReadyH.cons rfl (fun K hK => ?_) AllReadyH.nil
  simp only [List.getElem_toArray, List.getElem_cons_succ, List.getElem_cons_zero]
  refine (if_pos (by kernel_rfl)).mpr ?_
  go_wp2_with fail
  refine (HRI.out _).mono ?_
  rintro e wx0 ⟨rfl, hfx0⟩
  dsimp only
  refine hK.out _ _ (Held.keep hfx0 hHeld0) (fun hHeld1 => ?_)
  clear hK K hHeld0
  change wpAnyH _ _ _ _ _ 4 #[true, true, true, true, true, true, true, true, true, true, true, true, true, true, true, true, true, true, true, true, true, true, false, false, false, false] _ _
  refine wpAnyH_ready (rs := [22]) (by kernel_rfl) (by simp) ?_
  refine AllReadyH.cons rfl (fun K hK => ?_) AllReadyH.nil
  simp only [List.getElem_toArray, List.getElem_cons_succ, List.getElem_cons_zero]
  refine (if_pos (by kernel_rfl)).mpr ?_
  go_wp2_with fail
  refine (HRRI.out _).mono ?_
  rintro e wx1 ⟨rfl, hfx1⟩
  dsimp only
  refine hK.out _ _ (Held.keep hfx1 hHeld1) (fun hHeld2 => ?_)
  clear hK K hHeld1
  change wpAnyH _ _ _ _ _ 3 #[true, true, true, true, true, true, true, true, true, true, true, true, true, true, true, true, true, true, true, true, true, true, true, false, false, false] _ _
  refine wpAnyH_take (i := 23) (v := .bool true) rfl (by kernel_rfl) (by kernel_rfl) (by kernel_rfl) (fun _ _ _ h => h) (Or.inl ⟨by kernel_rfl, fun w hSw => by go_simp <;> (first | exact beq_iff_eq.1 (by assumption) | exact beq_eq_false_iff_ne.1 (by assumption) | omega)⟩) hHeld2 ?_
  simp only [Act.put, List.getElem_toArray, List.getElem_cons_succ, List.getElem_cons_zero, List.setIfInBounds_toArray, List.set_cons_zero, List.set_cons_succ]
  change wpAnyH _ _ _ _ _ 2 #[true, true, true, true, true, true, true, true, true, true, true, true, true, true, true, true, true, true, true, true, true, true, true, true, false, false] _ _
  refine wpAnyH_take (i := 24) (v := .bool true) rfl (by kernel_rfl) (by kernel_rfl) (by kernel_rfl) (fun _ _ _ h => h) (Or.inl ⟨by kernel_rfl, fun w hSw => by first | kernel_rfl | (go_simp; done)⟩) hHeld2 ?_
  simp only [Act.put, List.getElem_toArray, List.getElem_cons_succ, List.getElem_cons_zero, List.setIfInBounds_toArray, List.set_cons_zero, List.set_cons_succ]
  change wpAnyH _ _ _ _ _ 1 #[true, true, true, true, true, true, true, true, true, true, true, true, true, true, true, true, true, true, true, true, true, true, true, true, true, false] _ _
  refine wpAnyH_take (i := 25) (v := .bool true) rfl (by kernel_rfl) (by kernel_rfl) (by kernel_rfl) (fun _ _ _ h => h) (Or.inl ⟨by kernel_rfl, fun w hSw => by first | kernel_rfl | (go_simp; done)⟩) hHeld2 ?_
  simp only [Act.put, List.getElem_toArray, List.getElem_cons_succ, List.getElem_cons_zero, List.setIfInBounds_toArray, List.set_cons_zero, List.set_cons_succ]
  change wpAnyH _ _ _ _ _ 0 #[true, true, true, true, true, true, true, true, true, true, true, true, true, true, true, true, true, true, true, true, true, true, true, true, true, true] _ _
  refine wpAnyH_done (by kernel_rfl) ?_ _
  refine NoPanic.normal ?_
  have HFIN := Lib.hid (Held.f hHeld2)
  have HEND := Lib.hid hHeld2
  clear hHeld2
  go_wp2_with fail
  all_goals go_ret
  exact ⟨rfl, HFIN.out⟩

end Go.Proofs.Ytfjkbabeceaelaa.InoPutLaw
