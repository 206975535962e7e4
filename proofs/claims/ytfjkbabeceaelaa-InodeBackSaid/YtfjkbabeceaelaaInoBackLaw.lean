/- The law InodeBack, walked. -/
import Derived.Test.YtfjkbabeceaelaaInoBackPlain
import Derived.Test.YtfjkbabeceaelaaInoTakeLaw
import Derived.Test.YtfjkbabeceaelaaInoRRight
set_option linter.unusedVariables false
set_option linter.unusedSimpArgs false
namespace Go.Proofs.Ytfjkbabeceaelaa.InoBackLaw
open Go Go.RowKit Go.Proofs.Ytfjkbabeceaelaa.K Go.Proofs.Ytfjkbabeceaelaa.EqKit Go.Proofs.Ytfjkbabeceaelaa.PtrKit Go.Proofs.Ytfjkbabeceaelaa.ArrKit Go.Proofs.Ytfjkbabeceaelaa.HeldKit Go.Proofs.Ytfjkbabeceaelaa.PtrAsk Go.Proofs.Ytfjkbabeceaelaa.PtrRRight Go.Proofs.Ytfjkbabeceaelaa.ShaStep Go.Proofs.Ytfjkbabeceaelaa.ShaSum Go.Proofs.Ytfjkbabeceaelaa.PtrOf Go.Proofs.Ytfjkbabeceaelaa.PtrROf Go.Proofs.Ytfjkbabeceaelaa.WordPut Go.Proofs.Ytfjkbabeceaelaa.WordTake Go.Proofs.Ytfjkbabeceaelaa.InoKit Go.Proofs.Ytfjkbabeceaelaa.InoRRight Go.Proofs.Ytfjkbabeceaelaa.InoNew Go.Proofs.Ytfjkbabeceaelaa.InoPut Go.Proofs.Ytfjkbabeceaelaa.InoTake Go.Proofs.Ytfjkbabeceaelaa.InoEq Go.Proofs.Ytfjkbabeceaelaa.InoAlive Go.Proofs.Ytfjkbabeceaelaa.InoBackPlain Go.Proofs.Ytfjkbabeceaelaa.InoTakeLaw

set_option maxHeartbeats 2000000 in
set_option maxRecDepth 100000 in
theorem back_wrong (x : NV) (a y : Int) (w : World) (hx : x.ok) (hr : nR x = false) : Calls Try.prog 5 #[.agg x.cells.toArray, .int .u8 a, .int .u8 y] w fun e w' => e = .returned (.bool true) ∧ Fr0 w w' := by
  have HPUT : Hid (∀ W : World, Calls Try.prog 12 #[.agg x.cells.toArray] W fun e w' => e = .returned (.tuple #[.agg ZB, .int .i64 1]) ∧ Fr0 W w') := Lib.hid (fun W => by
    have := put_calls x W hx
    rw [ipX, ipE, hr] at this
    exact this)
  have HRI : Hid (∀ W : World, Calls Try.prog 13 #[.agg x.cells.toArray] W fun e w' => e = .returned (.bool false) ∧ Fr0 W w') := Lib.hid (fun W => by
    have := nrright_calls x W hx
    rw [hr] at this
    exact this)
  have HIX : Hid ((Try.prog.info? 30).map (·.size) = some x.cells.toArray.size) := Lib.hid (by rw [info_n, List.size_toArray, NV.cells_length hx])
  have hzb : ∀ W, (zeroValue 22).run Try.prog W = .ok (.agg ZB) W := by intro W; kernel_rfl
  have hzn : ∀ W, (zeroValue 30).run Try.prog W = .ok (.agg ZN) W := by intro W; kernel_rfl
  have heqz : ∀ W, (Op.equalIn 10000 22 (.agg ZB) (.agg ZB)).run Try.prog W = .ok true W := fun W => by
    have := eq_bytes (P := Try.prog) Try.underlying22 Try.underlying5 (by kernel_rfl) (by kernel_rfl) (by kernel_rfl) Z64 Z64 Z64_len Z64_len W
    rwa [decide_eq_true (rfl : Z64 = Z64)] at this
  generalize x.cells.toArray = X at *
  clear hx hr
  have HF_w0 : Hid (Fr0 w (w.alloc (.cells X 30))) := Lib.hid (Fr.alloc (Fr.refl _ _) _)
  have HX_w0 : Hid (Bk (w.alloc (.cells X 30)) w.heap.size X 30) := Lib.hid (Bk.new w _)
  go_enter Try.func5, Try.ntmps5
  go_wp2_with (first | (go_at_call 7; (with_reducible refine (alive_calls _).mono ?_); rintro e w1 ⟨rfl, hf⟩; have HF_w1 := Lib.hid (HF_w0.out.then0 hf); have HX_w1 := Lib.hid (hf.keep HX_w0.out (fun h => h)); clear hf) | (go_at_call 12; (with_reducible refine (HPUT.out _).mono ?_); rintro e w2 ⟨rfl, hf⟩; have HF_w2 := Lib.hid (HF_w1.out.then0 hf); have HX_w2 := Lib.hid (hf.keep HX_w1.out (fun h => h)); have HZ_w2 : Hid (Bk (w2.alloc (.cells ZB 22)) w2.heap.size ZB 22) := Lib.hid (Bk.new _ _); clear hf) | (refine wpList_store_row rfl 22 _ _ rfl w2.heap.size ZB rfl rfl 22 ZB HZ_w2.out infoB rfl ZB_one ?_; change wpList _ _ _ _ _ ((w2.alloc (.cells ZB 22)).setRow w2.heap.size ZB); have hfx : Fr0 w2 ((w2.alloc (.cells ZB 22)).setRow w2.heap.size ZB) := ArrKit.Fr.row (Fr.alloc (Fr.refl _ _) _) _ _ (.inl (Nat.le_refl _)); have HA_w3 : Hid (Bk ((w2.alloc (.cells ZB 22)).setRow w2.heap.size ZB) w2.heap.size ZB 22) := Lib.hid (ArrKit.Bk.row HZ_w2.out _); have HF_w3 := Lib.hid (HF_w2.out.then0 hfx); have HX_w3 := Lib.hid (hfx.keep HX_w2.out (fun h => h)); clear hfx; generalize ((w2.alloc (.cells ZB 22)).setRow w2.heap.size ZB) = w3 at *; generalize w2.heap.size = J1 at *) | ((with_reducible show wpList _ _ _ ({ dst := _, op := Op.load 30 _, type := _, pos := _, after := _, guard := _ } :: _) _ _); refine wpList_load_row_g (by rfl) 30 _ rfl w.heap.size rfl 30 X (0, 0) _ HX_w3.out Try.underlying30 rfl HIX.out ?_) | ((with_reducible show wpList _ _ _ ({ dst := _, op := Op.load 30 _, type := _, pos := _, after := _, guard := _ } :: _) _ _); refine wpList_load_row_g (by rfl) 30 _ rfl w.heap.size rfl 30 X (0, 0) _ HX_w1.out Try.underlying30 rfl HIX.out ?_) | ((with_reducible show wpList _ _ _ ({ dst := _, op := Op.load 22 _, type := _, pos := _, after := _, guard := _ } :: _) _ _); refine wpList_load_row_g (by rfl) 22 _ rfl J1 rfl 22 ZB (0, 0) _ HA_w3.out Try.underlying22 rfl infoB ?_) | ((with_reducible show wpList _ _ _ ({ dst := _, op := Op.build 22 #[], type := _, pos := _, after := _, guard := _ } :: _) _ _); refine PtrAsk.build_eq rfl 22 _ rfl ZB (by kernel_rfl) ?_) | (go_at_call 13; (with_reducible refine (HRI.out _).mono ?_); rintro e w4 ⟨rfl, hf4⟩; have HF_w4 := Lib.hid (HF_w3.out.then0 hf4); clear hf4))
  go_ret
  exact ⟨rfl, HF_w4.out⟩

set_option maxHeartbeats 2000000 in
set_option maxRecDepth 100000 in
theorem back_right (x : NV) (k y : UInt8) (w : World) (hx : x.ok) (hr : nR x = true) : Calls Try.prog 5 #[.agg x.cells.toArray, .int .u8 (k.toNat : Int), .int .u8 (y.toNat : Int)] w fun e w' => e = .returned (.bool true) ∧ Fr0 w w' := by
  have HPUT : Hid (∀ W : World, Calls Try.prog 12 #[.agg x.cells.toArray] W fun e w' => e = .returned (.tuple #[.agg ((nodeB x).map B).toArray, .int .i64 0]) ∧ Fr0 W w') := Lib.hid (fun W => by
    have := put_calls x W hx
    rw [ipX, ipE, hr] at this
    exact this)
  have hbl := nodeB_length hx
  have HTAKE : Hid (∀ W : World, Calls Try.prog 8 #[.agg ((nodeB x).map B).toArray, .int .i64 x.num] W fun e w' => e = .returned (.tuple #[.agg x.cells.toArray, .int .i64 0]) ∧ Fr0 W w') := Lib.hid (fun W => by
    have := take_calls (nodeB x) _ rfl hbl x.num hx.wn W
    rw [itX_back hr hx, itE_back hr hx] at this
    exact this)
  have HIX : Hid ((Try.prog.info? 30).map (·.size) = some x.cells.toArray.size) := Lib.hid (by rw [info_n, List.size_toArray, NV.cells_length hx])
  have hzb : ∀ W, (zeroValue 22).run Try.prog W = .ok (.agg ZB) W := by intro W; kernel_rfl
  have hzn : ∀ W, (zeroValue 30).run Try.prog W = .ok (.agg ZN) W := by intro W; kernel_rfl
  have HZX : Hid (ZN.size = x.cells.toArray.size) := Lib.hid (ZN_size.trans (by rw [List.size_toArray, NV.cells_length hx]))
  have HOX : Hid (x.cells.toArray.all (·.oneCell') = true) := Lib.hid cells_one
  have HX0 : Hid (x.cells.toArray[0]? = some (.int .i64 x.num)) := Lib.hid rfl
  have HIP : Hid ((Try.prog.info? 22).map (·.size) = some ((nodeB x).map B).toArray.size) := Lib.hid (by rw [infoB, List.size_toArray, List.length_map, hbl])
  have HZP : Hid (ZB.size = ((nodeB x).map B).toArray.size) := Lib.hid ((show ZB.size = 64 by simp [ZB, Z64]).trans (by rw [List.size_toArray, List.length_map, hbl]))
  have HOP : Hid (((nodeB x).map B).toArray.all (·.oneCell') = true) := Lib.hid (by simp [B, Value.oneCell'])
  have heqn : ∀ W, (Op.equalIn 10000 30 (.agg x.cells.toArray) (.agg x.cells.toArray)).run Try.prog W = .ok true W := fun W => eq_node hx W
  have HWN := Lib.hid hx.wn
  obtain ⟨v, hv⟩ : ∃ v, (nodeB x)[k.toNat % 64]? = some v := ⟨_, List.getElem?_eq_getElem (by rw [hbl]; omega)⟩
  generalize nodeB x = bl at *
  generalize hxc : x.cells.toArray = X at *
  generalize x.num = n at *
  clear hx hr hxc x
  generalize hpp : (bl.map B).toArray = P at *
  generalize hkn : k.toNat = kn at *
  generalize hyn : y.toNat = yn at *
  obtain ⟨vn, hvn⟩ : ∃ vn, v.toNat = vn := ⟨_, rfl⟩
  have k0 : kn < 256 := hkn ▸ k.toNat_lt
  have y0 : yn < 256 := hyn ▸ y.toNat_lt
  have HCM : Hid (P[kn % 64]? = some (.int .u8 (vn : Int))) := Lib.hid (by rw [← hpp, List.getElem?_toArray, List.getElem?_map, hv, ← hvn]; rfl)
  have HXO : Hid (bits .xor .u8 (vn : Int) (yn : Int) = ((vn ^^^ yn : Nat) : Int)) := Lib.hid (u8_xor_nat vn yn (hvn ▸ v.toNat_lt) y0)
  have v0 : vn < 256 := hvn ▸ v.toNat_lt
  have HXX := Lib.hid hpp
  have HKN := Lib.hid hkn
  have HYN := Lib.hid hyn
  have HVN := Lib.hid hvn
  have HBL := Lib.hid hbl
  clear hv hkn hyn hvn hpp hbl
  have HF_w0 : Hid (Fr0 w (w.alloc (.cells X 30))) := Lib.hid (Fr.alloc (Fr.refl _ _) _)
  have HX_w0 : Hid (Bk (w.alloc (.cells X 30)) w.heap.size X 30) := Lib.hid (Bk.new w _)
  go_enter Try.func5, Try.ntmps5
  go_wp2_with (first | (go_at_call 7; (with_reducible refine (alive_calls _).mono ?_); rintro e w1 ⟨rfl, hf⟩; have HF_w1 := Lib.hid (HF_w0.out.then0 hf); have HX_w1 := Lib.hid (hf.keep HX_w0.out (fun h => h)); clear hf) | (go_at_call 12; (with_reducible refine (HPUT.out _).mono ?_); rintro e w2 ⟨rfl, hf⟩; have HF_w2 := Lib.hid (HF_w1.out.then0 hf); have HX_w2 := Lib.hid (hf.keep HX_w1.out (fun h => h)); have HZ_w2 : Hid (Bk (w2.alloc (.cells ZB 22)) w2.heap.size ZB 22) := Lib.hid (Bk.new _ _); clear hf) | (refine wpList_store_row rfl 22 _ _ rfl w2.heap.size P rfl rfl 22 ZB HZ_w2.out HIP.out HZP.out HOP.out ?_; change wpList _ _ _ _ _ ((w2.alloc (.cells ZB 22)).setRow w2.heap.size P); have hfx : Fr0 w2 ((w2.alloc (.cells ZB 22)).setRow w2.heap.size P) := ArrKit.Fr.row (Fr.alloc (Fr.refl _ _) _) _ _ (.inl (Nat.le_refl _)); have HA_w3 : Hid (Bk ((w2.alloc (.cells ZB 22)).setRow w2.heap.size P) w2.heap.size P 22) := Lib.hid (ArrKit.Bk.row HZ_w2.out _); have HF_w3 := Lib.hid (HF_w2.out.then0 hfx); have HX_w3 := Lib.hid (hfx.keep HX_w2.out (fun h => h)); clear hfx; generalize ((w2.alloc (.cells ZB 22)).setRow w2.heap.size P) = w3 at *; generalize w2.heap.size = J1 at *; have q3 := (Bk.cell HX_w3.out 0).trans HX0.out) | (go_at_call 8; (with_reducible refine (HTAKE.out _).mono ?_); rintro e w4 ⟨rfl, hf⟩; have HF_w4 := Lib.hid (HF_w3.out.then0 hf); have HX_w4 := Lib.hid (hf.keep HX_w3.out (fun h => h)); have HA_w4 := Lib.hid (hf.keep HA_w3.out (fun h => h)); have HZ_w4 : Hid (Bk (w4.alloc (.cells ZN 30)) w4.heap.size ZN 30) := Lib.hid (Bk.new _ _); clear hf) | (refine wpList_store_row rfl 30 _ _ rfl w4.heap.size X rfl rfl 30 ZN HZ_w4.out HIX.out HZX.out HOX.out ?_; change wpList _ _ _ _ _ ((w4.alloc (.cells ZN 30)).setRow w4.heap.size X); have hfx : Fr0 w4 ((w4.alloc (.cells ZN 30)).setRow w4.heap.size X) := ArrKit.Fr.row (Fr.alloc (Fr.refl _ _) _) _ _ (.inl (Nat.le_refl _)); have HM_w5 : Hid (Bk ((w4.alloc (.cells ZN 30)).setRow w4.heap.size X) w4.heap.size X 30) := Lib.hid (ArrKit.Bk.row HZ_w4.out _); have HF_w5 := Lib.hid (HF_w4.out.then0 hfx); have HX_w5 := Lib.hid (hfx.keep HX_w4.out (fun h => h)); have HA_w5 := Lib.hid (hfx.keep HA_w4.out (fun h => h)); clear hfx; generalize ((w4.alloc (.cells ZN 30)).setRow w4.heap.size X) = w5 at *; generalize w4.heap.size = J2 at *; have HZ_w5 : Hid (Bk (w5.alloc (.cells ZB 22)) w5.heap.size ZB 22) := Lib.hid (Bk.new _ _)) | (refine wpList_store_row rfl 22 _ _ rfl w5.heap.size P rfl rfl 22 ZB HZ_w5.out HIP.out HZP.out HOP.out ?_; change wpList _ _ _ _ _ ((w5.alloc (.cells ZB 22)).setRow w5.heap.size P); have hfx : Fr0 w5 ((w5.alloc (.cells ZB 22)).setRow w5.heap.size P) := ArrKit.Fr.row (Fr.alloc (Fr.refl _ _) _) _ _ (.inl (Nat.le_refl _)); have HY_w6 : Hid (Bk ((w5.alloc (.cells ZB 22)).setRow w5.heap.size P) w5.heap.size P 22) := Lib.hid (ArrKit.Bk.row HZ_w5.out _); have HF_w6 := Lib.hid (HF_w5.out.then0 hfx); have HX_w6 := Lib.hid (hfx.keep HX_w5.out (fun h => h)); have HA_w6 := Lib.hid (hfx.keep HA_w5.out (fun h => h)); have HM_w6 := Lib.hid (hfx.keep HM_w5.out (fun h => h)); have HN0 : Hid (w.heap.size < w5.heap.size) := Lib.hid (Bk.lt HX_w5.out); have HN1 : Hid (J1 < w5.heap.size) := Lib.hid (Bk.lt HA_w5.out); have HN2 : Hid (J2 < w5.heap.size) := Lib.hid (Bk.lt HM_w5.out); have HN9 : Hid (w.heap.size ≤ w5.heap.size) := Lib.hid HF_w5.out.size; clear hfx; generalize ((w5.alloc (.cells ZB 22)).setRow w5.heap.size P) = w6 at *; generalize w5.heap.size = J3 at *; have hca := (Bk.cell HY_w6.out (kn % 64)).trans HCM.out; have hfz := Bk.free HY_w6.out (kn % 64)) | ((with_reducible show wpList _ _ _ ({ dst := _, op := Op.load 30 _, type := _, pos := _, after := _, guard := _ } :: _) _ _); refine wpList_load_row_g (by rfl) 30 _ rfl w.heap.size rfl 30 X (0, 0) _ HX_w3.out Try.underlying30 rfl HIX.out ?_) | ((with_reducible show wpList _ _ _ ({ dst := _, op := Op.load 30 _, type := _, pos := _, after := _, guard := _ } :: _) _ _); refine wpList_load_row_g (by rfl) 30 _ rfl w.heap.size rfl 30 X (0, 0) _ HX_w1.out Try.underlying30 rfl HIX.out ?_) | ((with_reducible show wpList _ _ _ ({ dst := _, op := Op.load 22 _, type := _, pos := _, after := _, guard := _ } :: _) _ _); refine wpList_load_row_g (by rfl) 22 _ rfl J1 rfl 22 P (0, 0) _ HA_w3.out Try.underlying22 rfl HIP.out ?_) | ((with_reducible show wpList _ _ _ ({ dst := _, op := Op.load 22 _, type := _, pos := _, after := _, guard := _ } :: _) _ _); refine wpList_load_row_g (by rfl) 22 _ rfl J1 rfl 22 P (0, 0) _ HA_w5.out Try.underlying22 rfl HIP.out ?_) | ((with_reducible show wpList _ _ _ ({ dst := _, op := Op.load 22 (Operand.tmp 11), type := _, pos := _, after := _, guard := _ } :: _) _ _); refine Classical.byContradiction fun hstop => ?_))
  refine hstop ?_
  clear hstop
  rw [HXO.out]
  have HX5e : Hid (P.setIfInBounds (kn % 64) (.int .u8 ((vn ^^^ yn : Nat) : Int)) = ((bl.set (kn % 64) (v ^^^ y)).map B).toArray) := Lib.hid (by
    rw [← HXX.out, List.setIfInBounds_toArray, List.map_set, B, UInt8.toNat_xor, HVN.out, HYN.out])
  have HXL : Hid ((bl.set (kn % 64) (v ^^^ y)).length = 64) := Lib.hid (by rw [List.length_set, HBL.out])
  generalize bl.set (kn % 64) (v ^^^ y) = xl at *
  have HS5 := Bk.set HY_w6.out (kn % 64) (.int .u8 ((vn ^^^ yn : Nat) : Int))
  rw [HX5e.out] at HS5
  have HY_w7 := Lib.hid HS5
  have HX_w7 := Lib.hid (Bk.setOther HX_w6.out ⟨J3, kn % 64, none⟩ (.int .u8 ((vn ^^^ yn : Nat) : Int)) (Nat.ne_of_lt HN0.out))
  have HM_w7 := Lib.hid (Bk.setOther HM_w6.out ⟨J3, kn % 64, none⟩ (.int .u8 ((vn ^^^ yn : Nat) : Int)) (Nat.ne_of_lt HN2.out))
  have HF_w7 := Lib.hid (Fr.set HF_w6.out ⟨J3, kn % 64, none⟩ (.int .u8 ((vn ^^^ yn : Nat) : Int)) (.inl HN9.out))
  clear HS5 hca hfz HX5e HXX HVN HYN HKN HCM HBL HN0 HN1 HN2 HN9 HXO HY_w6 HX_w6 HM_w6 HF_w6 HA_w6
  generalize w6.setCell ⟨J3, kn % 64, none⟩ (.int .u8 ((vn ^^^ yn : Nat) : Int)) = w7 at *
  have q7 := (Bk.cell HX_w7.out 0).trans HX0.out
  have HIPX : Hid ((Try.prog.info? 22).map (·.size) = some (xl.map B).toArray.size) := Lib.hid (by rw [infoB, List.size_toArray, List.length_map, HXL.out])
  clear HF_w0 HX_w0 HF_w1 HX_w1 HF_w2 HX_w2 HF_w3 HX_w3 HA_w3 HF_w4 HX_w4 HA_w4 HF_w5 HX_w5 HA_w5 HM_w5 HPUT HTAKE HZP HOP HIP HZ_w2 HZ_w4 HZ_w5 q3
  cases ht : takes xl n with
  | true =>
    have HTK0 : ∀ W : World, Calls Try.prog 8 #[.agg (xl.map B).toArray, .int .i64 n] W fun e w' => e = .returned (.tuple #[.agg (itX xl n), .int .i64 (itE xl n)]) ∧ Fr0 W w' := fun W => take_calls xl _ rfl HXL.out n HWN.out W
    have hok := tN_ok HXL.out HWN.out
    obtain ⟨-, -, -, hE0, hX0⟩ := takes_facts ht
    have HPU : Hid (∀ W : World, Calls Try.prog 12 #[.agg (tN xl n).cells.toArray] W fun e w' => e = .returned (.tuple #[.agg (xl.map B).toArray, .int .i64 0]) ∧ Fr0 W w') := Lib.hid (fun W => by
      have := put_calls (tN xl n) W hok
      rw [hE0, hX0] at this
      exact this)
    rw [itX, itE_takes ht, ht, if_pos rfl] at HTK0
    have HTK := Lib.hid HTK0
    have HIY : Hid ((Try.prog.info? 30).map (·.size) = some (tN xl n).cells.toArray.size) := Lib.hid (by rw [info_n, List.size_toArray, NV.cells_length hok])
    have HZY : Hid (ZN.size = (tN xl n).cells.toArray.size) := Lib.hid (ZN_size.trans (by rw [List.size_toArray, NV.cells_length hok]))
    have HOY : Hid ((tN xl n).cells.toArray.all (·.oneCell') = true) := Lib.hid cells_one
    have HIQ := HIPX
    have HZQ : Hid (ZB.size = (xl.map B).toArray.size) := Lib.hid ((show ZB.size = 64 by simp [ZB, Z64]).trans (by rw [List.size_toArray, List.length_map, HXL.out]))
    have HOQ : Hid ((xl.map B).toArray.all (·.oneCell') = true) := Lib.hid (by simp [B, Value.oneCell'])
    have heqb : ∀ W, (Op.equalIn 10000 22 (.agg (xl.map B).toArray) (.agg (xl.map B).toArray)).run Try.prog W = .ok true W := fun W => by
      have := eq_bytes (P := Try.prog) Try.underlying22 Try.underlying5 (by kernel_rfl) (by kernel_rfl) (by kernel_rfl) xl xl HXL.out HXL.out W
      rwa [decide_eq_true (rfl : xl = xl)] at this
    clear hok hE0 hX0 ht HTK0
    generalize (tN xl n).cells.toArray = Y at *
    generalize (xl.map B).toArray = PX at *
    clear HXL
    go_wp2_with (first | (go_at_call 8; (with_reducible refine (HTK.out _).mono ?_); rintro e w8 ⟨rfl, hf⟩; have HF_w8 := Lib.hid (HF_w7.out.then0 hf); have HX_w8 := Lib.hid (hf.keep HX_w7.out (fun h => h)); have HM_w8 := Lib.hid (hf.keep HM_w7.out (fun h => h)); have HY_w8 := Lib.hid (hf.keep HY_w7.out (fun h => h)); have HZ_w8 : Hid (Bk (w8.alloc (.cells ZN 30)) w8.heap.size ZN 30) := Lib.hid (Bk.new _ _); clear hf) | (refine wpList_store_row rfl 30 _ _ rfl w8.heap.size Y rfl rfl 30 ZN HZ_w8.out HIY.out HZY.out HOY.out ?_; change wpList _ _ _ _ _ ((w8.alloc (.cells ZN 30)).setRow w8.heap.size Y); have hfx : Fr0 w8 ((w8.alloc (.cells ZN 30)).setRow w8.heap.size Y) := ArrKit.Fr.row (Fr.alloc (Fr.refl _ _) _) _ _ (.inl (Nat.le_refl _)); have HJ_w9 : Hid (Bk ((w8.alloc (.cells ZN 30)).setRow w8.heap.size Y) w8.heap.size Y 30) := Lib.hid (ArrKit.Bk.row HZ_w8.out _); have HF_w9 := Lib.hid (HF_w8.out.then0 hfx); have HX_w9 := Lib.hid (hfx.keep HX_w8.out (fun h => h)); have HM_w9 := Lib.hid (hfx.keep HM_w8.out (fun h => h)); have HY_w9 := Lib.hid (hfx.keep HY_w8.out (fun h => h)); clear hfx; generalize ((w8.alloc (.cells ZN 30)).setRow w8.heap.size Y) = w9 at *; generalize w8.heap.size = J4 at *) | (go_at_call 12; (with_reducible refine (HPU.out _).mono ?_); rintro e w10 ⟨rfl, hf⟩; have HF_w10 := Lib.hid (HF_w9.out.then0 hf); have HX_w10 := Lib.hid (hf.keep HX_w9.out (fun h => h)); have HM_w10 := Lib.hid (hf.keep HM_w9.out (fun h => h)); have HY_w10 := Lib.hid (hf.keep HY_w9.out (fun h => h)); have HJ_w10 := Lib.hid (hf.keep HJ_w9.out (fun h => h)); have HZ_w10 : Hid (Bk (w10.alloc (.cells ZB 22)) w10.heap.size ZB 22) := Lib.hid (Bk.new _ _); clear hf) | (refine wpList_store_row rfl 22 _ _ rfl w10.heap.size PX rfl rfl 22 ZB HZ_w10.out HIQ.out HZQ.out HOQ.out ?_; change wpList _ _ _ _ _ ((w10.alloc (.cells ZB 22)).setRow w10.heap.size PX); have hfx : Fr0 w10 ((w10.alloc (.cells ZB 22)).setRow w10.heap.size PX) := ArrKit.Fr.row (Fr.alloc (Fr.refl _ _) _) _ _ (.inl (Nat.le_refl _)); have HQ_w11 : Hid (Bk ((w10.alloc (.cells ZB 22)).setRow w10.heap.size PX) w10.heap.size PX 22) := Lib.hid (ArrKit.Bk.row HZ_w10.out _); have HF_w11 := Lib.hid (HF_w10.out.then0 hfx); have HX_w11 := Lib.hid (hfx.keep HX_w10.out (fun h => h)); have HM_w11 := Lib.hid (hfx.keep HM_w10.out (fun h => h)); have HY_w11 := Lib.hid (hfx.keep HY_w10.out (fun h => h)); have HJ_w11 := Lib.hid (hfx.keep HJ_w10.out (fun h => h)); clear hfx; generalize ((w10.alloc (.cells ZB 22)).setRow w10.heap.size PX) = w11 at *; generalize w10.heap.size = J5 at *) | ((with_reducible show wpList _ _ _ ({ dst := _, op := Op.load 22 _, type := _, pos := _, after := _, guard := _ } :: _) _ _); refine wpList_load_row_g (by rfl) 22 _ rfl J3 rfl 22 PX (0, 0) _ HY_w7.out Try.underlying22 rfl HIPX.out ?_) | ((with_reducible show wpList _ _ _ ({ dst := _, op := Op.load 30 _, type := _, pos := _, after := _, guard := _ } :: _) _ _); refine wpList_load_row_g (by rfl) 30 _ rfl J4 rfl 30 Y (0, 0) _ HJ_w9.out Try.underlying30 rfl HIY.out ?_) | ((with_reducible show wpList _ _ _ ({ dst := _, op := Op.load 30 _, type := _, pos := _, after := _, guard := _ } :: _) _ _); refine wpList_load_row_g (by rfl) 30 _ rfl J2 rfl 30 X (0, 0) _ HM_w11.out Try.underlying30 rfl HIX.out ?_) | ((with_reducible show wpList _ _ _ ({ dst := _, op := Op.load 30 _, type := _, pos := _, after := _, guard := _ } :: _) _ _); refine wpList_load_row_g (by rfl) 30 _ rfl w.heap.size rfl 30 X (0, 0) _ HX_w11.out Try.underlying30 rfl HIX.out ?_) | ((with_reducible show wpList _ _ _ ({ dst := _, op := Op.load 22 _, type := _, pos := _, after := _, guard := _ } :: _) _ _); refine wpList_load_row_g (by rfl) 22 _ rfl J5 rfl 22 PX (0, 0) _ HQ_w11.out Try.underlying22 rfl HIQ.out ?_) | ((with_reducible show wpList _ _ _ ({ dst := _, op := Op.load 22 _, type := _, pos := _, after := _, guard := _ } :: _) _ _); refine wpList_load_row_g (by rfl) 22 _ rfl J3 rfl 22 PX (0, 0) _ HY_w11.out Try.underlying22 rfl HIPX.out ?_))
    all_goals go_ret
    all_goals exact ⟨rfl, HF_w11.out⟩
  | false =>
    have HTK0 : ∀ W : World, Calls Try.prog 8 #[.agg (xl.map B).toArray, .int .i64 n] W fun e w' => e = .returned (.tuple #[.agg (itX xl n), .int .i64 (itE xl n)]) ∧ Fr0 W w' := fun W => take_calls xl _ rfl HXL.out n HWN.out W
    have hG0 := itE_not ht
    rw [itX, ht, if_neg (by decide)] at HTK0
    have HTK := Lib.hid HTK0
    have HIY : Hid ((Try.prog.info? 30).map (·.size) = some ZN.size) := Lib.hid info_n
    have hpl := ipX_length noN_ok
    have HPU : Hid (∀ W : World, Calls Try.prog 12 #[.agg ZN] W fun e w' => e = .returned (.tuple #[.agg ((ipX noN).map B).toArray, .int .i64 (ipE noN)]) ∧ Fr0 W w') := Lib.hid (fun W => by
      have := put_calls noN W noN_ok
      rwa [noN_cells] at this)
    have HIQ : Hid ((Try.prog.info? 22).map (·.size) = some ((ipX noN).map B).toArray.size) := Lib.hid (by rw [infoB, List.size_toArray, List.length_map, hpl])
    have HZQ : Hid (ZB.size = ((ipX noN).map B).toArray.size) := Lib.hid ((show ZB.size = 64 by simp [ZB, Z64]).trans (by rw [List.size_toArray, List.length_map, hpl]))
    have HOQ : Hid (((ipX noN).map B).toArray.all (·.oneCell') = true) := Lib.hid (by simp [B, Value.oneCell'])
    generalize ((ipX noN).map B).toArray = Q at *
    generalize ipE noN = E at *
    clear hpl ht HTK0
    generalize (xl.map B).toArray = PX at *
    generalize itE xl n = G at *
    have hG : ¬ G = 0 := hG0
    have hGd : decide (G = 0) = false := decide_eq_false hG0
    clear hG0
    clear HXL
    go_wp2_with (first | (go_at_call 8; (with_reducible refine (HTK.out _).mono ?_); rintro e w8 ⟨rfl, hf⟩; have HF_w8 := Lib.hid (HF_w7.out.then0 hf); have HX_w8 := Lib.hid (hf.keep HX_w7.out (fun h => h)); have HM_w8 := Lib.hid (hf.keep HM_w7.out (fun h => h)); have HY_w8 := Lib.hid (hf.keep HY_w7.out (fun h => h)); have HZ_w8 : Hid (Bk (w8.alloc (.cells ZN 30)) w8.heap.size ZN 30) := Lib.hid (Bk.new _ _); clear hf) | (refine wpList_store_row rfl 30 _ _ rfl w8.heap.size ZN rfl rfl 30 ZN HZ_w8.out HIY.out rfl ZN_one ?_; change wpList _ _ _ _ _ ((w8.alloc (.cells ZN 30)).setRow w8.heap.size ZN); have hfx : Fr0 w8 ((w8.alloc (.cells ZN 30)).setRow w8.heap.size ZN) := ArrKit.Fr.row (Fr.alloc (Fr.refl _ _) _) _ _ (.inl (Nat.le_refl _)); have HJ_w9 : Hid (Bk ((w8.alloc (.cells ZN 30)).setRow w8.heap.size ZN) w8.heap.size ZN 30) := Lib.hid (ArrKit.Bk.row HZ_w8.out _); have HF_w9 := Lib.hid (HF_w8.out.then0 hfx); have HX_w9 := Lib.hid (hfx.keep HX_w8.out (fun h => h)); have HM_w9 := Lib.hid (hfx.keep HM_w8.out (fun h => h)); have HY_w9 := Lib.hid (hfx.keep HY_w8.out (fun h => h)); clear hfx; generalize ((w8.alloc (.cells ZN 30)).setRow w8.heap.size ZN) = w9 at *; generalize w8.heap.size = J4 at *) | (go_at_call 12; (with_reducible refine (HPU.out _).mono ?_); rintro e w10 ⟨rfl, hf⟩; have HF_w10 := Lib.hid (HF_w9.out.then0 hf); have HX_w10 := Lib.hid (hf.keep HX_w9.out (fun h => h)); have HM_w10 := Lib.hid (hf.keep HM_w9.out (fun h => h)); have HY_w10 := Lib.hid (hf.keep HY_w9.out (fun h => h)); have HJ_w10 := Lib.hid (hf.keep HJ_w9.out (fun h => h)); have HZ_w10 : Hid (Bk (w10.alloc (.cells ZB 22)) w10.heap.size ZB 22) := Lib.hid (Bk.new _ _); clear hf) | (refine wpList_store_row rfl 22 _ _ rfl w10.heap.size Q rfl rfl 22 ZB HZ_w10.out HIQ.out HZQ.out HOQ.out ?_; change wpList _ _ _ _ _ ((w10.alloc (.cells ZB 22)).setRow w10.heap.size Q); have hfx : Fr0 w10 ((w10.alloc (.cells ZB 22)).setRow w10.heap.size Q) := ArrKit.Fr.row (Fr.alloc (Fr.refl _ _) _) _ _ (.inl (Nat.le_refl _)); have HQ_w11 : Hid (Bk ((w10.alloc (.cells ZB 22)).setRow w10.heap.size Q) w10.heap.size Q 22) := Lib.hid (ArrKit.Bk.row HZ_w10.out _); have HF_w11 := Lib.hid (HF_w10.out.then0 hfx); have HX_w11 := Lib.hid (hfx.keep HX_w10.out (fun h => h)); have HM_w11 := Lib.hid (hfx.keep HM_w10.out (fun h => h)); have HY_w11 := Lib.hid (hfx.keep HY_w10.out (fun h => h)); have HJ_w11 := Lib.hid (hfx.keep HJ_w10.out (fun h => h)); clear hfx; generalize ((w10.alloc (.cells ZB 22)).setRow w10.heap.size Q) = w11 at *; generalize w10.heap.size = J5 at *) | ((with_reducible show wpList _ _ _ ({ dst := _, op := Op.load 22 _, type := _, pos := _, after := _, guard := _ } :: _) _ _); refine wpList_load_row_g (by rfl) 22 _ rfl J3 rfl 22 PX (0, 0) _ HY_w7.out Try.underlying22 rfl HIPX.out ?_) | ((with_reducible show wpList _ _ _ ({ dst := _, op := Op.load 30 _, type := _, pos := _, after := _, guard := _ } :: _) _ _); refine wpList_load_row_g (by rfl) 30 _ rfl J4 rfl 30 ZN (0, 0) _ HJ_w9.out Try.underlying30 rfl HIY.out ?_) | ((with_reducible show wpList _ _ _ ({ dst := _, op := Op.load 30 _, type := _, pos := _, after := _, guard := _ } :: _) _ _); refine wpList_load_row_g (by rfl) 30 _ rfl J2 rfl 30 X (0, 0) _ HM_w11.out Try.underlying30 rfl HIX.out ?_) | ((with_reducible show wpList _ _ _ ({ dst := _, op := Op.load 30 _, type := _, pos := _, after := _, guard := _ } :: _) _ _); refine wpList_load_row_g (by rfl) 30 _ rfl w.heap.size rfl 30 X (0, 0) _ HX_w11.out Try.underlying30 rfl HIX.out ?_) | ((with_reducible show wpList _ _ _ ({ dst := _, op := Op.load 22 _, type := _, pos := _, after := _, guard := _ } :: _) _ _); refine wpList_load_row_g (by rfl) 22 _ rfl J5 rfl 22 Q (0, 0) _ HQ_w11.out Try.underlying22 rfl HIQ.out ?_) | ((with_reducible show wpList _ _ _ ({ dst := _, op := Op.load 22 _, type := _, pos := _, after := _, guard := _ } :: _) _ _); refine wpList_load_row_g (by rfl) 22 _ rfl J3 rfl 22 PX (0, 0) _ HY_w11.out Try.underlying22 rfl HIPX.out ?_))
    all_goals go_ret
    all_goals exact ⟨rfl, HF_w11.out⟩

theorem back_all (x : NV) (k y : UInt8) (w : World) (hx : x.ok) : Calls Try.prog 5 #[.agg x.cells.toArray, .int .u8 (k.toNat : Int), .int .u8 (y.toNat : Int)] w fun e w' => e = .returned (.bool true) ∧ Fr0 w w' := by
  cases hr : nR x with
  | true => exact back_right x k y w hx hr
  | false => exact back_wrong x _ _ w hx hr
theorem u8_of {n : Int} (h : (Lit.int .u8 n).wf = true) : ∃ k : UInt8, n = (k.toNat : Int) := by
  have hz : 0 ≤ n ∧ n ≤ 255 := by simpa [Lit.wf, IntKind.min, IntKind.max, IntKind.signed, IntKind.bits] using h
  exact ⟨UInt8.ofNat n.toNat, by rw [UInt8.toNat_ofNat', Nat.mod_eq_of_lt (by omega)]; omega⟩
theorem back_ints (x : NV) (a y : Int) (w : World) (hx : x.ok) (ha : (Lit.int .u8 a).wf = true) (hy : (Lit.int .u8 y).wf = true) : Calls Try.prog 5 #[.agg x.cells.toArray, .int .u8 a, .int .u8 y] w fun e w' => e = .returned (.bool true) ∧ Fr0 w w' := by
  obtain ⟨k, rfl⟩ := u8_of ha
  obtain ⟨z, rfl⟩ := u8_of hy
  exact back_all x k z w hx

end Go.Proofs.Ytfjkbabeceaelaa.InoBackLaw
