/- The fixed fact of the laws on nodes. -/
import Derived.Test.YtfjkbabeceaelaaInoTake
import Derived.Test.YtfjkbabeceaelaaInoEq
set_option linter.unusedVariables false
set_option linter.unusedSimpArgs false
namespace Go.Proofs.Ytfjkbabeceaelaa.InoAlive
open Go Go.RowKit Go.Proofs.Ytfjkbabeceaelaa.K Go.Proofs.Ytfjkbabeceaelaa.EqKit Go.Proofs.Ytfjkbabeceaelaa.PtrKit Go.Proofs.Ytfjkbabeceaelaa.ArrKit Go.Proofs.Ytfjkbabeceaelaa.HeldKit Go.Proofs.Ytfjkbabeceaelaa.PtrAsk Go.Proofs.Ytfjkbabeceaelaa.PtrRRight Go.Proofs.Ytfjkbabeceaelaa.ShaStep Go.Proofs.Ytfjkbabeceaelaa.ShaSum Go.Proofs.Ytfjkbabeceaelaa.PtrOf Go.Proofs.Ytfjkbabeceaelaa.PtrROf Go.Proofs.Ytfjkbabeceaelaa.WordPut Go.Proofs.Ytfjkbabeceaelaa.WordTake Go.Proofs.Ytfjkbabeceaelaa.InoKit Go.Proofs.Ytfjkbabeceaelaa.InoRRight Go.Proofs.Ytfjkbabeceaelaa.InoNew Go.Proofs.Ytfjkbabeceaelaa.InoPut Go.Proofs.Ytfjkbabeceaelaa.InoTake Go.Proofs.Ytfjkbabeceaelaa.InoEq

def n7 : NV := newN 7 1
theorem n7_ok : n7.ok := newN_ok (by decide) (by decide)
theorem n7_right : nR n7 = true := by kernel_rfl
def b7 : List UInt8 := ipX n7
theorem b7_len : b7.length = 64 := ipX_length n7_ok
theorem b7_takes : takes b7 7 = true := by kernel_rfl
theorem b7_back : (tN b7 7).cells.toArray = n7.cells.toArray := by kernel_rfl
theorem b7_zero : allZ b7 = false := by kernel_rfl
theorem itX7 : itX b7 7 = n7.cells.toArray := by unfold itX; rw [b7_takes]; exact b7_back
theorem itE7 : itE b7 7 = 0 := by unfold itE; rw [b7_takes, b7_zero]; rfl
set_option maxHeartbeats 2000000 in
set_option maxRecDepth 100000 in
theorem alive_calls (w : World) : Calls Try.prog 7 #[] w fun e w' => e = .returned (.bool true) ∧ Fr0 w w' := by
  have HNEW : Hid (∀ W : World, Calls Try.prog 10 #[.int .i64 7, .int .i64 1] W fun e w' => e = .returned (.tuple #[.agg n7.cells.toArray, .int .i64 0]) ∧ Fr0 W w') := Lib.hid (fun W => by
    have := new_calls 7 1 W (by decide) (by decide)
    rw [newX, newE, show nR (newN 7 1) = true from n7_right] at this
    exact this)
  have HPUT : Hid (∀ W : World, Calls Try.prog 12 #[.agg n7.cells.toArray] W fun e w' => e = .returned (.tuple #[.agg (b7.map B).toArray, .int .i64 0]) ∧ Fr0 W w') := Lib.hid (fun W => by
    have := put_calls n7 W n7_ok
    rw [ipE, n7_right] at this
    exact this)
  have HTAKE : Hid (∀ W : World, Calls Try.prog 8 #[.agg (b7.map B).toArray, .int .i64 7] W fun e w' => e = .returned (.tuple #[.agg n7.cells.toArray, .int .i64 0]) ∧ Fr0 W w') := Lib.hid (fun W => by
    have := take_calls b7 _ rfl b7_len 7 (by decide) W
    rw [itX7, itE7] at this
    exact this)
  have HIN : Hid ((Try.prog.info? 30).map (·.size) = some n7.cells.toArray.size) := Lib.hid (by rw [info_n, List.size_toArray, NV.cells_length n7_ok])
  have HZN : Hid (ZN.size = n7.cells.toArray.size) := Lib.hid (ZN_size.trans (by rw [List.size_toArray, NV.cells_length n7_ok]))
  have HON : Hid (n7.cells.toArray.all (·.oneCell') = true) := Lib.hid cells_one
  have HIP : Hid ((Try.prog.info? 22).map (·.size) = some (b7.map B).toArray.size) := Lib.hid (by rw [infoB, List.size_toArray, List.length_map, b7_len])
  have HZP : Hid (ZB.size = (b7.map B).toArray.size) := Lib.hid ((show ZB.size = 64 by simp [ZB, Z64]).trans (by rw [List.size_toArray, List.length_map, b7_len]))
  have HOP : Hid ((b7.map B).toArray.all (·.oneCell') = true) := Lib.hid (by simp [B, Value.oneCell'])
  have HP0 : Hid ((b7.map B).toArray[0]? = some (.int .u8 1)) := Lib.hid (by kernel_rfl)
  have HP2 : Hid ((b7.map B).toArray[2]? = some (.int .u8 1)) := Lib.hid (by kernel_rfl)
  have HP8 : Hid ((b7.map B).toArray[8]? = some (.int .u8 255)) := Lib.hid (by kernel_rfl)
  have heq : ∀ W, (Op.equalIn 10000 30 (.agg n7.cells.toArray) (.agg n7.cells.toArray)).run Try.prog W = .ok true W := fun W => eq_node n7_ok W
  generalize n7.cells.toArray = N7 at *
  generalize (b7.map B).toArray = P7 at *
  have hzn : ∀ W, (zeroValue 30).run Try.prog W = .ok (.agg ZN) W := by intro W; kernel_rfl
  have hzb : ∀ W, (zeroValue 22).run Try.prog W = .ok (.agg ZB) W := by intro W; kernel_rfl
  have HF_w0 : Hid (Fr0 w w) := Lib.hid (Fr.refl _ _)
  go_enter Try.func7, Try.ntmps7
  go_wp2_with (first | (go_at_call 10; (with_reducible refine (HNEW.out _).mono ?_); rintro e w1 ⟨rfl, hf⟩; have HF_w1 := Lib.hid (HF_w0.out.then0 hf); have HZ_w1 : Hid (Bk (w1.alloc (.cells ZN 30)) w1.heap.size ZN 30) := Lib.hid (Bk.new _ _); clear hf) | (refine wpList_store_row rfl 30 _ _ rfl w1.heap.size N7 rfl rfl 30 ZN HZ_w1.out HIN.out HZN.out HON.out ?_; change wpList _ _ _ _ _ ((w1.alloc (.cells ZN 30)).setRow w1.heap.size N7); have hfx : Fr0 w1 ((w1.alloc (.cells ZN 30)).setRow w1.heap.size N7) := ArrKit.Fr.row (Fr.alloc (Fr.refl _ _) _) _ _ (.inl (Nat.le_refl _)); have HA_w2 : Hid (Bk ((w1.alloc (.cells ZN 30)).setRow w1.heap.size N7) w1.heap.size N7 30) := Lib.hid (ArrKit.Bk.row HZ_w1.out _); have HF_w2 := Lib.hid (HF_w1.out.then0 hfx); clear hfx; generalize ((w1.alloc (.cells ZN 30)).setRow w1.heap.size N7) = w2 at *; generalize w1.heap.size = J1 at *) | (go_at_call 12; (with_reducible refine (HPUT.out _).mono ?_); rintro e w3 ⟨rfl, hf⟩; have HF_w3 := Lib.hid (HF_w2.out.then0 hf); have HA_w3 := Lib.hid (hf.keep HA_w2.out (fun h => h)); have HZ_w3 : Hid (Bk (w3.alloc (.cells ZB 22)) w3.heap.size ZB 22) := Lib.hid (Bk.new _ _); clear hf) | (refine wpList_store_row rfl 22 _ _ rfl w3.heap.size P7 rfl rfl 22 ZB HZ_w3.out HIP.out HZP.out HOP.out ?_; change wpList _ _ _ _ _ ((w3.alloc (.cells ZB 22)).setRow w3.heap.size P7); have hfx : Fr0 w3 ((w3.alloc (.cells ZB 22)).setRow w3.heap.size P7) := ArrKit.Fr.row (Fr.alloc (Fr.refl _ _) _) _ _ (.inl (Nat.le_refl _)); have HB_w4 : Hid (Bk ((w3.alloc (.cells ZB 22)).setRow w3.heap.size P7) w3.heap.size P7 22) := Lib.hid (ArrKit.Bk.row HZ_w3.out _); have HF_w4 := Lib.hid (HF_w3.out.then0 hfx); have HA_w4 := Lib.hid (hfx.keep HA_w3.out (fun h => h)); clear hfx; generalize ((w3.alloc (.cells ZB 22)).setRow w3.heap.size P7) = w4 at *; generalize w3.heap.size = J2 at *) | (go_at_call 8; (with_reducible refine (HTAKE.out _).mono ?_); rintro e w5 ⟨rfl, hf⟩; have HF_w5 := Lib.hid (HF_w4.out.then0 hf); have HA_w5 := Lib.hid (hf.keep HA_w4.out (fun h => h)); have HB_w5 := Lib.hid (hf.keep HB_w4.out (fun h => h)); have HZ_w5 : Hid (Bk (w5.alloc (.cells ZN 30)) w5.heap.size ZN 30) := Lib.hid (Bk.new _ _); clear hf) | (refine wpList_store_row rfl 30 _ _ rfl w5.heap.size N7 rfl rfl 30 ZN HZ_w5.out HIN.out HZN.out HON.out ?_; change wpList _ _ _ _ _ ((w5.alloc (.cells ZN 30)).setRow w5.heap.size N7); have hfx : Fr0 w5 ((w5.alloc (.cells ZN 30)).setRow w5.heap.size N7) := ArrKit.Fr.row (Fr.alloc (Fr.refl _ _) _) _ _ (.inl (Nat.le_refl _)); have HC_w6 : Hid (Bk ((w5.alloc (.cells ZN 30)).setRow w5.heap.size N7) w5.heap.size N7 30) := Lib.hid (ArrKit.Bk.row HZ_w5.out _); have HF_w6 := Lib.hid (HF_w5.out.then0 hfx); have HA_w6 := Lib.hid (hfx.keep HA_w5.out (fun h => h)); have HB_w6 := Lib.hid (hfx.keep HB_w5.out (fun h => h)); clear hfx; generalize ((w5.alloc (.cells ZN 30)).setRow w5.heap.size N7) = w6 at *; generalize w5.heap.size = J3 at *; have q0 := (Bk.cell HB_w6.out 0).trans HP0.out; have q2 := (Bk.cell HB_w6.out 2).trans HP2.out; have q8 := (Bk.cell HB_w6.out 8).trans HP8.out) | ((with_reducible show wpList _ _ _ ({ dst := _, op := Op.load 30 _, type := _, pos := _, after := _, guard := _ } :: _) _ _); refine wpList_load_row_g (by rfl) 30 _ rfl J3 rfl 30 N7 (0, 0) _ HC_w6.out Try.underlying30 rfl HIN.out ?_) | ((with_reducible show wpList _ _ _ ({ dst := _, op := Op.load 30 _, type := _, pos := _, after := _, guard := _ } :: _) _ _); refine wpList_load_row_g (by rfl) 30 _ rfl J1 rfl 30 N7 (0, 0) _ HA_w6.out Try.underlying30 rfl HIN.out ?_) | ((with_reducible show wpList _ _ _ ({ dst := _, op := Op.load 30 _, type := _, pos := _, after := _, guard := _ } :: _) _ _); refine wpList_load_row_g (by rfl) 30 _ rfl J1 rfl 30 N7 (0, 0) _ HA_w2.out Try.underlying30 rfl HIN.out ?_) | ((with_reducible show wpList _ _ _ ({ dst := _, op := Op.load 22 _, type := _, pos := _, after := _, guard := _ } :: _) _ _); refine wpList_load_row_g (by rfl) 22 _ rfl J2 rfl 22 P7 (0, 0) _ HB_w4.out Try.underlying22 rfl HIP.out ?_))
  go_ret
  exact ⟨rfl, HF_w6.out⟩

end Go.Proofs.Ytfjkbabeceaelaa.InoAlive
