/- The law InodeTakes, walked. -/
import Derived.Test.YtfjkbabeceaelaaInoAlive
import Derived.Test.YtfjkbabeceaelaaInoRTake
set_option linter.unusedVariables false
set_option linter.unusedSimpArgs false
namespace Go.Proofs.Ytfjkbabeceaelaa.InoTakeLaw
open Go Go.RowKit Go.Proofs.Ytfjkbabeceaelaa.K Go.Proofs.Ytfjkbabeceaelaa.EqKit Go.Proofs.Ytfjkbabeceaelaa.PtrKit Go.Proofs.Ytfjkbabeceaelaa.ArrKit Go.Proofs.Ytfjkbabeceaelaa.HeldKit Go.Proofs.Ytfjkbabeceaelaa.PtrAsk Go.Proofs.Ytfjkbabeceaelaa.PtrRRight Go.Proofs.Ytfjkbabeceaelaa.ShaStep Go.Proofs.Ytfjkbabeceaelaa.ShaSum Go.Proofs.Ytfjkbabeceaelaa.PtrOf Go.Proofs.Ytfjkbabeceaelaa.PtrROf Go.Proofs.Ytfjkbabeceaelaa.WordPut Go.Proofs.Ytfjkbabeceaelaa.WordTake Go.Proofs.Ytfjkbabeceaelaa.InoKit Go.Proofs.Ytfjkbabeceaelaa.InoRRight Go.Proofs.Ytfjkbabeceaelaa.InoNew Go.Proofs.Ytfjkbabeceaelaa.InoPut Go.Proofs.Ytfjkbabeceaelaa.InoTake Go.Proofs.Ytfjkbabeceaelaa.InoRTake Go.Proofs.Ytfjkbabeceaelaa.InoEq Go.Proofs.Ytfjkbabeceaelaa.InoAlive

theorem itX_node {bl : List UInt8} (hbl : bl.length = 64) {n : Int} (hn : (Lit.int .i64 n).wf = true) : ∃ v : NV, v.ok ∧ itX bl n = v.cells.toArray := by
  unfold itX
  split
  · exact ⟨_, tN_ok hbl hn, rfl⟩
  · exact ⟨noN, noN_ok, noN_cells.symm⟩
set_option maxHeartbeats 2000000 in
set_option maxRecDepth 100000 in
theorem takes_all (bl : List UInt8) (hbl : bl.length = 64) (n : Int) (w : World) (hn : (Lit.int .i64 n).wf = true) : Calls Try.prog 3 #[.agg (bl.map B).toArray, .int .i64 n] w fun e w' => e = .returned (.bool true) ∧ Fr0 w w' := by
  have HTAKE : Hid (∀ W : World, Calls Try.prog 8 #[.agg (bl.map B).toArray, .int .i64 n] W fun e w' => e = .returned (.tuple #[.agg (itX bl n), .int .i64 (itE bl n)]) ∧ Fr0 W w') := Lib.hid (fun W => take_calls bl _ rfl hbl n hn W)
  have HRTAKE : Hid (∀ W : World, Calls Try.prog 9 #[.agg (bl.map B).toArray, .int .i64 n] W fun e w' => e = .returned (.tuple #[.agg (itX bl n), .int .i64 (itE bl n)]) ∧ Fr0 W w') := Lib.hid (fun W => rtake_calls bl _ rfl hbl n hn W)
  obtain ⟨v, hv, hX⟩ := itX_node hbl hn
  rw [hX] at HTAKE HRTAKE
  have HIX : Hid ((Try.prog.info? 22).map (·.size) = some (bl.map B).toArray.size) := Lib.hid (by rw [infoB, List.size_toArray, List.length_map, hbl])
  have HIN : Hid ((Try.prog.info? 30).map (·.size) = some v.cells.toArray.size) := Lib.hid (by rw [info_n, List.size_toArray, NV.cells_length hv])
  have HZN : Hid (ZN.size = v.cells.toArray.size) := Lib.hid (ZN_size.trans (by rw [List.size_toArray, NV.cells_length hv]))
  have HON : Hid (v.cells.toArray.all (·.oneCell') = true) := Lib.hid cells_one
  have heq : ∀ W, (Op.equalIn 10000 30 (.agg v.cells.toArray) (.agg v.cells.toArray)).run Try.prog W = .ok true W := fun W => eq_node hv W
  generalize v.cells.toArray = Y at *
  generalize itE bl n = E at *
  clear hX hv v hn hbl
  generalize (bl.map B).toArray = X at *
  have hE : (E == E) = true := beq_self_eq_true E
  have hzn : ∀ W, (zeroValue 30).run Try.prog W = .ok (.agg ZN) W := by intro W; kernel_rfl
  have HF_w0 : Hid (Fr0 w (w.alloc (.cells X 22))) := Lib.hid (Fr.alloc (Fr.refl _ _) _)
  have HX_w0 : Hid (Bk (w.alloc (.cells X 22)) w.heap.size X 22) := Lib.hid (Bk.new w _)
  go_enter Try.func3, Try.ntmps3
  go_wp2_with (first | (go_at_call 7; (with_reducible refine (alive_calls _).mono ?_); rintro e w1 ⟨rfl, hf⟩; have HF_w1 := Lib.hid (HF_w0.out.then0 hf); have HX_w1 := Lib.hid (hf.keep HX_w0.out (fun h => h)); clear hf) | (go_at_call 8; (with_reducible refine (HTAKE.out _).mono ?_); rintro e w2 ⟨rfl, hf⟩; have HF_w2 := Lib.hid (HF_w1.out.then0 hf); have HX_w2 := Lib.hid (hf.keep HX_w1.out (fun h => h)); have HZ_w2 : Hid (Bk (w2.alloc (.cells ZN 30)) w2.heap.size ZN 30) := Lib.hid (Bk.new _ _); clear hf) | (refine wpList_store_row rfl 30 _ _ rfl w2.heap.size Y rfl rfl 30 ZN HZ_w2.out HIN.out HZN.out HON.out ?_; change wpList _ _ _ _ _ ((w2.alloc (.cells ZN 30)).setRow w2.heap.size Y); have hfx : Fr0 w2 ((w2.alloc (.cells ZN 30)).setRow w2.heap.size Y) := ArrKit.Fr.row (Fr.alloc (Fr.refl _ _) _) _ _ (.inl (Nat.le_refl _)); have HA_w3 : Hid (Bk ((w2.alloc (.cells ZN 30)).setRow w2.heap.size Y) w2.heap.size Y 30) := Lib.hid (ArrKit.Bk.row HZ_w2.out _); have HF_w3 := Lib.hid (HF_w2.out.then0 hfx); have HX_w3 := Lib.hid (hfx.keep HX_w2.out (fun h => h)); clear hfx; generalize ((w2.alloc (.cells ZN 30)).setRow w2.heap.size Y) = w3 at *; generalize w2.heap.size = J1 at *) | (go_at_call 9; (with_reducible refine (HRTAKE.out _).mono ?_); rintro e w4 ⟨rfl, hf⟩; have HF_w4 := Lib.hid (HF_w3.out.then0 hf); have HX_w4 := Lib.hid (hf.keep HX_w3.out (fun h => h)); have HA_w4 := Lib.hid (hf.keep HA_w3.out (fun h => h)); have HZ_w4 : Hid (Bk (w4.alloc (.cells ZN 30)) w4.heap.size ZN 30) := Lib.hid (Bk.new _ _); clear hf) | (refine wpList_store_row rfl 30 _ _ rfl w4.heap.size Y rfl rfl 30 ZN HZ_w4.out HIN.out HZN.out HON.out ?_; change wpList _ _ _ _ _ ((w4.alloc (.cells ZN 30)).setRow w4.heap.size Y); have hfx : Fr0 w4 ((w4.alloc (.cells ZN 30)).setRow w4.heap.size Y) := ArrKit.Fr.row (Fr.alloc (Fr.refl _ _) _) _ _ (.inl (Nat.le_refl _)); have HB_w5 : Hid (Bk ((w4.alloc (.cells ZN 30)).setRow w4.heap.size Y) w4.heap.size Y 30) := Lib.hid (ArrKit.Bk.row HZ_w4.out _); have HF_w5 := Lib.hid (HF_w4.out.then0 hfx); have HX_w5 := Lib.hid (hfx.keep HX_w4.out (fun h => h)); have HA_w5 := Lib.hid (hfx.keep HA_w4.out (fun h => h)); clear hfx; generalize ((w4.alloc (.cells ZN 30)).setRow w4.heap.size Y) = w5 at *; generalize w4.heap.size = J2 at *) | ((with_reducible show wpList _ _ _ ({ dst := _, op := Op.load 22 _, type := _, pos := _, after := _, guard := _ } :: _) _ _); refine wpList_load_row_g (by rfl) 22 _ rfl w.heap.size rfl 22 X (0, 0) _ HX_w3.out Try.underlying22 rfl HIX.out ?_) | ((with_reducible show wpList _ _ _ ({ dst := _, op := Op.load 22 _, type := _, pos := _, after := _, guard := _ } :: _) _ _); refine wpList_load_row_g (by rfl) 22 _ rfl w.heap.size rfl 22 X (0, 0) _ HX_w1.out Try.underlying22 rfl HIX.out ?_) | ((with_reducible show wpList _ _ _ ({ dst := _, op := Op.load 30 _, type := _, pos := _, after := _, guard := _ } :: _) _ _); refine wpList_load_row_g (by rfl) 30 _ rfl J2 rfl 30 Y (0, 0) _ HB_w5.out Try.underlying30 rfl HIN.out ?_) | ((with_reducible show wpList _ _ _ ({ dst := _, op := Op.load 30 _, type := _, pos := _, after := _, guard := _ } :: _) _ _); refine wpList_load_row_g (by rfl) 30 _ rfl J1 rfl 30 Y (0, 0) _ HA_w5.out Try.underlying30 rfl HIN.out ?_))
  go_ret
  exact ⟨rfl, HF_w5.out⟩

end Go.Proofs.Ytfjkbabeceaelaa.InoTakeLaw
