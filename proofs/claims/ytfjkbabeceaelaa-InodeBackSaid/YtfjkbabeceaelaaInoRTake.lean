/- The node of bytes: the walk of the reference. -/
import Derived.Test.YtfjkbabeceaelaaInoTake
import Derived.Test.YtfjkbabeceaelaaInoRPut
import Derived.Test.YtfjkbabeceaelaaInoEq
import Derived.Test.YtfjkbabeceaelaaPtrRTake
set_option linter.unusedVariables false
set_option linter.unusedSimpArgs false
namespace Go.Proofs.Ytfjkbabeceaelaa.InoRTake
open Go Go.RowKit Go.Proofs.Ytfjkbabeceaelaa.K Go.Proofs.Ytfjkbabeceaelaa.EqKit Go.Proofs.Ytfjkbabeceaelaa.PtrKit Go.Proofs.Ytfjkbabeceaelaa.ArrKit Go.Proofs.Ytfjkbabeceaelaa.HeldKit Go.Proofs.Ytfjkbabeceaelaa.PtrAsk Go.Proofs.Ytfjkbabeceaelaa.PtrRRight Go.Proofs.Ytfjkbabeceaelaa.ShaStep Go.Proofs.Ytfjkbabeceaelaa.ShaSum Go.Proofs.Ytfjkbabeceaelaa.PtrOf Go.Proofs.Ytfjkbabeceaelaa.PtrROf Go.Proofs.Ytfjkbabeceaelaa.WordPut Go.Proofs.Ytfjkbabeceaelaa.WordTake Go.Proofs.Ytfjkbabeceaelaa.PtrPut Go.Proofs.Ytfjkbabeceaelaa.PtrTake Go.Proofs.Ytfjkbabeceaelaa.InoKit Go.Proofs.Ytfjkbabeceaelaa.InoRRight Go.Proofs.Ytfjkbabeceaelaa.InoNew Go.Proofs.Ytfjkbabeceaelaa.InoPut Go.Proofs.Ytfjkbabeceaelaa.InoRPut Go.Proofs.Ytfjkbabeceaelaa.InoTake Go.Proofs.Ytfjkbabeceaelaa.InoEq

set_option maxHeartbeats 2000000 in
set_option maxRecDepth 100000 in
theorem rtake_low (X : Array Value) (n : Int) (w : World) (h : n < 1) : Calls Try.prog 9 #[.agg X, .int .i64 n] w fun e w' => e = .returned (.tuple #[.agg ZN, .int .i64 1]) ∧ Fr0 w w' := by
  have c0 : decide (n < 1) = true := decide_eq_true (by omega)
  have hs1 : (w.alloc (.cells X 22)).heap.size = w.heap.size + 1 := by simp
  have HX : Hid (Bk ((w.alloc (.cells X 22)).alloc (.cells ZN 30)) w.heap.size X 22) := Lib.hid (Bk.alloc (Bk.new w _) _)
  have HR : Hid (Bk ((w.alloc (.cells X 22)).alloc (.cells ZN 30)) (w.heap.size + 1) ZN 30) := Lib.hid (by have := Bk.new (w.alloc (.cells X 22)) (.cells ZN 30); rwa [hs1] at this)
  have HF : Hid (Fr0 w ((w.alloc (.cells X 22)).alloc (.cells ZN 30))) := Lib.hid (Fr.alloc (Fr.alloc (Fr.refl _ _) _) _)
  have hz : ∀ W, (zeroValue 30).run Try.prog W = .ok (.agg ZN) W := by intro W; kernel_rfl
  have hzb : ∀ W, (zeroValue 22).run Try.prog W = .ok (.agg ZB) W := by intro W; kernel_rfl
  clear hs1
  go_enter Try.func9, Try.ntmps9
  go_wp2_with (first | ((with_reducible show wpList _ _ _ ({ dst := _, op := Op.build 30 #[], type := _, pos := _, after := _, guard := _ } :: _) _ _); refine PtrAsk.build_eq rfl 30 _ rfl ZN (by kernel_rfl) ?_) | ((with_reducible show wpList _ _ _ ({ dst := _, op := Op.store 30 _ _, type := _, pos := _, after := _, guard := _ } :: _) _ _); refine wpList_store_row rfl 30 _ _ rfl (w.heap.size + 1) ZN rfl rfl 30 ZN HR.out info_n rfl ZN_one ?_))
  refine fin_ct (w.heap.size + 1) 30 ZN (.int .i64 1) (by rfl) (by rfl) (by rfl) (by rfl) Try.underlying30 (by rfl) info_n (ArrKit.Bk.row HR.out _) ?_
  exact ⟨rfl, ArrKit.Fr.row HF.out _ _ (.inl (by omega))⟩

set_option maxHeartbeats 2000000 in
set_option maxRecDepth 100000 in
theorem rtake_high (X : Array Value) (n : Int) (w : World) (h : 64 < n) : Calls Try.prog 9 #[.agg X, .int .i64 n] w fun e w' => e = .returned (.tuple #[.agg ZN, .int .i64 1]) ∧ Fr0 w w' := by
  have c0 : decide (n < 1) = false := decide_eq_false (by omega)
  have c1 : decide (64 < n) = true := decide_eq_true (by omega)
  have hs1 : (w.alloc (.cells X 22)).heap.size = w.heap.size + 1 := by simp
  have HX : Hid (Bk ((w.alloc (.cells X 22)).alloc (.cells ZN 30)) w.heap.size X 22) := Lib.hid (Bk.alloc (Bk.new w _) _)
  have HR : Hid (Bk ((w.alloc (.cells X 22)).alloc (.cells ZN 30)) (w.heap.size + 1) ZN 30) := Lib.hid (by have := Bk.new (w.alloc (.cells X 22)) (.cells ZN 30); rwa [hs1] at this)
  have HF : Hid (Fr0 w ((w.alloc (.cells X 22)).alloc (.cells ZN 30))) := Lib.hid (Fr.alloc (Fr.alloc (Fr.refl _ _) _) _)
  have hz : ∀ W, (zeroValue 30).run Try.prog W = .ok (.agg ZN) W := by intro W; kernel_rfl
  have hzb : ∀ W, (zeroValue 22).run Try.prog W = .ok (.agg ZB) W := by intro W; kernel_rfl
  clear hs1
  go_enter Try.func9, Try.ntmps9
  go_wp2_with (first | ((with_reducible show wpList _ _ _ ({ dst := _, op := Op.build 30 #[], type := _, pos := _, after := _, guard := _ } :: _) _ _); refine PtrAsk.build_eq rfl 30 _ rfl ZN (by kernel_rfl) ?_) | ((with_reducible show wpList _ _ _ ({ dst := _, op := Op.store 30 _ _, type := _, pos := _, after := _, guard := _ } :: _) _ _); refine wpList_store_row rfl 30 _ _ rfl (w.heap.size + 1) ZN rfl rfl 30 ZN HR.out info_n rfl ZN_one ?_))
  refine fin_ct (w.heap.size + 1) 30 ZN (.int .i64 1) (by rfl) (by rfl) (by rfl) (by rfl) Try.underlying30 (by rfl) info_n (ArrKit.Bk.row HR.out _) ?_
  exact ⟨rfl, ArrKit.Fr.row HF.out _ _ (.inl (by omega))⟩

theorem allZ_eq {bl : List UInt8} (h : bl.length = 64) : allZ bl = decide (bl = Z64) := by
  rw [Bool.eq_iff_iff, decide_eq_true_eq, allZ, List.all_eq_true, Z64]
  constructor
  · intro hz
    rw [← h]
    exact List.eq_replicate_iff.2 ⟨rfl, fun b hb => by simpa using hz b hb⟩
  · intro e x hx
    rw [e] at hx
    simp [List.eq_of_mem_replicate hx]
set_option maxHeartbeats 2000000 in
set_option maxRecDepth 100000 in
theorem rtake_zero (bl : List UInt8) (X : Array Value) (hX : (bl.map B).toArray = X) (hbl : bl.length = 64) (n : Int) (w : World) (h1 : 1 ≤ n) (h2 : n ≤ 64) (hza : allZ bl = true) : Calls Try.prog 9 #[.agg X, .int .i64 n] w fun e w' => e = .returned (.tuple #[.agg ZN, .int .i64 4]) ∧ Fr0 w w' := by
  have c0 : decide (n < 1) = false := decide_eq_false (by omega)
  have c1 : decide (64 < n) = false := decide_eq_false (by omega)
  have HIXB : Hid ((Try.prog.info? 22).map (·.size) = some X.size) := Lib.hid (by rw [← hX, infoB, List.size_toArray, List.length_map, hbl])
  have heqz : ∀ W, (Op.equalIn 10000 22 (.agg X) (.agg ZB)).run Try.prog W = .ok true W := fun W => by
    have := eq_bytes (P := Try.prog) Try.underlying22 Try.underlying5 (by kernel_rfl) (by kernel_rfl) (by kernel_rfl) bl Z64 hbl Z64_len W
    rw [hX, ← allZ_eq hbl, hza] at this
    exact this
  have hs1 : (w.alloc (.cells X 22)).heap.size = w.heap.size + 1 := by simp
  have HX : Hid (Bk ((w.alloc (.cells X 22)).alloc (.cells ZN 30)) w.heap.size X 22) := Lib.hid (Bk.alloc (Bk.new w _) _)
  have HR : Hid (Bk ((w.alloc (.cells X 22)).alloc (.cells ZN 30)) (w.heap.size + 1) ZN 30) := Lib.hid (by have := Bk.new (w.alloc (.cells X 22)) (.cells ZN 30); rwa [hs1] at this)
  have HF : Hid (Fr0 w ((w.alloc (.cells X 22)).alloc (.cells ZN 30))) := Lib.hid (Fr.alloc (Fr.alloc (Fr.refl _ _) _) _)
  have hz : ∀ W, (zeroValue 30).run Try.prog W = .ok (.agg ZN) W := by intro W; kernel_rfl
  have hzb : ∀ W, (zeroValue 22).run Try.prog W = .ok (.agg ZB) W := by intro W; kernel_rfl
  clear hs1
  clear hX hbl hza
  go_enter Try.func9, Try.ntmps9
  go_wp2_with (first | ((with_reducible show wpList _ _ _ ({ dst := _, op := Op.load 22 _, type := _, pos := _, after := _, guard := _ } :: _) _ _); refine wpList_load_row_g (by rfl) 22 _ rfl w.heap.size rfl 22 X (0, 0) _ HX.out Try.underlying22 rfl HIXB.out ?_) | ((with_reducible show wpList _ _ _ ({ dst := _, op := Op.build 22 #[], type := _, pos := _, after := _, guard := _ } :: _) _ _); refine PtrAsk.build_eq rfl 22 _ rfl ZB (by kernel_rfl) ?_) | ((with_reducible show wpList _ _ _ ({ dst := _, op := Op.build 30 #[], type := _, pos := _, after := _, guard := _ } :: _) _ _); refine PtrAsk.build_eq rfl 30 _ rfl ZN (by kernel_rfl) ?_) | ((with_reducible show wpList _ _ _ ({ dst := _, op := Op.store 30 _ _, type := _, pos := _, after := _, guard := _ } :: _) _ _); refine wpList_store_row rfl 30 _ _ rfl (w.heap.size + 1) ZN rfl rfl 30 ZN HR.out info_n rfl ZN_one ?_))
  refine fin_ct (w.heap.size + 1) 30 ZN (.int .i64 4) (by rfl) (by rfl) (by rfl) (by rfl) Try.underlying30 (by rfl) info_n (ArrKit.Bk.row HR.out _) ?_
  exact ⟨rfl, ArrKit.Fr.row HF.out _ _ (.inl (by omega))⟩

/-- the node that is read, whatever pointer was taken -/
def rN (bl : List UInt8) (n : Int) (R : V3) : NV := ⟨n, at8 bl 0, at8 bl 1, R, (szt bl : Int), at8 bl 2⟩
theorem rN_ok {bl : List UInt8} (h : bl.length = 64) {n : Int} (hn : (Lit.int .i64 n).wf = true) {R : V3} (hR : R.ok) : (rN bl n R).ok := by
  have hb : ∀ i, (bl.getD i 0).toNat < 4294967296 := fun i => by have := (bl.getD i 0).toNat_lt; omega
  exact ⟨hR, hn, wf_small _ (hb 0), wf_small _ (hb 1), wf_small _ (num4 _ (by rw [List.length_take]; omega)), wf_small _ (hb 2)⟩
theorem built_n4 (n k l : Int) (v : V3) (z c : Int) (hv : v.ok) : Try.prog.built 30 [(0, .int .i64 n), (1, .int .i64 k), (2, .int .i64 l), (3, .agg (stm v z c).toArray)] = some (NV.cells ⟨n, k, l, v, z, c⟩).toArray := by
  obtain ⟨a, b, s⟩ := v
  have hs : s.length = 32 := hv.len
  clear hv
  match s, hs with
  | [s0, s1, s2, s3, s4, s5, s6, s7, s8, s9, s10, s11, s12, s13, s14, s15, s16, s17, s18, s19, s20, s21, s22, s23, s24, s25, s26, s27, s28, s29, s30, s31], _ => (show _ = _; kernel_rfl)

set_option maxHeartbeats 2000000 in
set_option maxRecDepth 100000 in
theorem rtake_e (bl : List UInt8) (X : Array Value) (hX : (bl.map B).toArray = X) (hbl : bl.length = 64) (n : Int) (w : World) (hwn : (Lit.int .i64 n).wf = true) (h1 : 1 ≤ n) (h2 : n ≤ 64) (hza : allZ bl = false) (R : V3) (hR : R.ok) (htk : tkV (prt bl) = .tuple #[.agg R.pc.toArray, .int .i64 15])  : Calls Try.prog 9 #[.agg X, .int .i64 n] w fun e w' => e = .returned (.tuple #[.agg ZN, .int .i64 15]) ∧ Fr0 w w' := by
  have c0 : decide (n < 1) = false := decide_eq_false (by omega)
  have c1 : decide (64 < n) = false := decide_eq_false (by omega)
  have HIXB : Hid ((Try.prog.info? 22).map (·.size) = some X.size) := Lib.hid (by rw [← hX, infoB, List.size_toArray, List.length_map, hbl])
  have heqz : ∀ W, (Op.equalIn 10000 22 (.agg X) (.agg ZB)).run Try.prog W = .ok false W := fun W => by
    have := eq_bytes (P := Try.prog) Try.underlying22 Try.underlying5 (by kernel_rfl) (by kernel_rfl) (by kernel_rfl) bl Z64 hbl Z64_len W
    rw [hX, ← allZ_eq hbl, hza] at this
    exact this
  have HRD : Hid (∀ W : World, Bk W w.heap.size X 22 → Rd W (some ⟨w.heap.size, 0, none⟩) bl) := Lib.hid (fun W h => Rd.block h (fun i hi => by rw [Nat.zero_add, ← hX]; simp [hi]))
  have HWT : Hid (∀ W : World, Bk W w.heap.size X 22 → Calls Try.prog 21 #[.slice (some ⟨w.heap.size, 0, none⟩) 64 64, .int .i64 4, .int .i64 4] W fun e w' => e = .returned (.tuple #[.int .i64 (szt bl : Int), .int .i64 0]) ∧ W = w') := Lib.hid (fun W h =>
    RefWord.take_ok w.heap.size 0 64 64 4 4 bl W hbl (HRD.out W h) (by omega) (by omega) (by omega) (by omega) (by omega) (by omega) (by have := num4 ((bl.drop 4).take 4) (by rw [List.length_take]; omega); omega))
  have HPT : Hid (∀ W : World, Bk W w.heap.size X 22 → Calls Try.prog 22 #[.slice (some ⟨w.heap.size, 0, none⟩) 64 64, .int .i64 8] W fun e w' => e = .returned (.tuple #[.agg R.pc.toArray, .int .i64 15]) ∧ Fr0 W w') := Lib.hid (fun W h => by
    have := PtrRTake.rtake_some w.heap.size 0 64 64 8 (prt bl) W (prt_length hbl) ((HRD.out W h).sub 8 40) (by omega) (by omega) (by omega) (by omega)
    rw [htk] at this
    exact this)
  have hok := rN_ok hbl hwn hR
  have HIP : Hid ((Try.prog.info? 26).map (·.size) = some R.pc.toArray.size) := Lib.hid (by rw [info_p, List.size_toArray, pc_length hR])
  have HZP : Hid (ZERO.size = R.pc.toArray.size) := Lib.hid ((show ZERO.size = 34 from rfl).trans (by rw [List.size_toArray, pc_length hR]))
  have HOP : Hid (R.pc.toArray.all (·.oneCell') = true) := Lib.hid (by simp [V3.pc, PC, B, Value.oneCell'])
  have HB0 : Hid (X[0]? = some (.int .u8 ((bl.getD 0 0).toNat : Int))) := Lib.hid (by rw [← hX]; exact getB bl 0 (by omega))
  have HB1 : Hid (X[1]? = some (.int .u8 ((bl.getD 1 0).toNat : Int))) := Lib.hid (by rw [← hX]; exact getB bl 1 (by omega))
  have HB2 : Hid (X[2]? = some (.int .u8 ((bl.getD 2 0).toNat : Int))) := Lib.hid (by rw [← hX]; exact getB bl 2 (by omega))
  have hv0 : (bl.getD 0 0).toNat < 256 := (bl.getD 0 0).toNat_lt
  have hv1 : (bl.getD 1 0).toNat < 256 := (bl.getD 1 0).toNat_lt
  have hv2 : (bl.getD 2 0).toNat < 256 := (bl.getD 2 0).toNat_lt
  have HPU : Hid (∀ W : World, Calls Try.prog 14 #[.agg (rN bl n R).cells.toArray] W fun e w' => e = .returned (.tuple #[.agg ((ipX (rN bl n R)).map B).toArray, .int .i64 (ipE (rN bl n R))]) ∧ Fr0 W w') := Lib.hid (fun W => rput_calls (rN bl n R) W hok)
  have HBT : Hid (Try.prog.built 30 [(0, .int .i64 n), (1, .int .i64 ((bl.getD 0 0).toNat : Int)), (2, .int .i64 ((bl.getD 1 0).toNat : Int)), (3, .agg (stm R (szt bl : Int) ((bl.getD 2 0).toNat : Int)).toArray)] = some (rN bl n R).cells.toArray) := Lib.hid (built_n4 n _ _ R _ _ hR)
  have HBS := Lib.hid (built_s3 R hR (szt bl : Int) ((bl.getD 2 0).toNat : Int))
  have HIT : Hid ((Try.prog.info? 30).map (·.size) = some (rN bl n R).cells.toArray.size) := Lib.hid (by rw [info_n, List.size_toArray, NV.cells_length hok])
  have HZT : Hid (ZN.size = (rN bl n R).cells.toArray.size) := Lib.hid (ZN_size.trans (by rw [List.size_toArray, NV.cells_length hok]))
  have HOT : Hid ((rN bl n R).cells.toArray.all (·.oneCell') = true) := Lib.hid cells_one
  have hpl := ipX_length hok
  have HIRB : Hid ((Try.prog.info? 22).map (·.size) = some ((ipX (rN bl n R)).map B).toArray.size) := Lib.hid (by rw [infoB, List.size_toArray, List.length_map, hpl])
  have HZRB : Hid (ZB.size = ((ipX (rN bl n R)).map B).toArray.size) := Lib.hid ((show ZB.size = 64 by simp [ZB, Z64]).trans (by rw [List.size_toArray, List.length_map, hpl]))
  have HORB : Hid (((ipX (rN bl n R)).map B).toArray.all (·.oneCell') = true) := Lib.hid (by simp [B, Value.oneCell'])
  have hs1 : (w.alloc (.cells X 22)).heap.size = w.heap.size + 1 := by simp
  have HX : Hid (Bk ((w.alloc (.cells X 22)).alloc (.cells ZN 30)) w.heap.size X 22) := Lib.hid (Bk.alloc (Bk.new w _) _)
  have HR : Hid (Bk ((w.alloc (.cells X 22)).alloc (.cells ZN 30)) (w.heap.size + 1) ZN 30) := Lib.hid (by have := Bk.new (w.alloc (.cells X 22)) (.cells ZN 30); rwa [hs1] at this)
  have HF : Hid (Fr0 w ((w.alloc (.cells X 22)).alloc (.cells ZN 30))) := Lib.hid (Fr.alloc (Fr.alloc (Fr.refl _ _) _) _)
  have hz : ∀ W, (zeroValue 30).run Try.prog W = .ok (.agg ZN) W := by intro W; kernel_rfl
  have hzb : ∀ W, (zeroValue 22).run Try.prog W = .ok (.agg ZB) W := by intro W; kernel_rfl
  clear hs1
  clear hX hbl hza hwn hok hpl htk
  generalize ((ipX (rN bl n R)).map B).toArray = RB at *
  generalize ipE (rN bl n R) = E at *
  generalize (rN bl n R).cells.toArray = XC at *
  generalize (bl.getD 0 0).toNat = y0 at *
  generalize (bl.getD 1 0).toNat = y1 at *
  generalize (bl.getD 2 0).toNat = y2 at *
  generalize (stm R (szt bl : Int) ((y2 : Nat) : Int)).toArray = SL at *
  generalize R.pc.toArray = RP at *
  generalize szt bl = sz at *
  clear hR
  go_enter Try.func9, Try.ntmps9
  go_wp2_with (first | ((with_reducible show wpList _ _ _ ({ dst := _, op := Op.load 22 _, type := _, pos := _, after := _, guard := _ } :: _) _ _); refine wpList_load_row_g (by rfl) 22 _ rfl w.heap.size rfl 22 X (0, 0) _ HX.out Try.underlying22 rfl HIXB.out ?_) | ((with_reducible show wpList _ _ _ ({ dst := _, op := Op.build 22 #[], type := _, pos := _, after := _, guard := _ } :: _) _ _); refine PtrAsk.build_eq rfl 22 _ rfl ZB (by kernel_rfl) ?_) | (go_at_call 21; (with_reducible refine (HWT.out _ HX.out).mono ?_); rintro e w1 ⟨rfl, rfl⟩) | (go_at_call 22; (with_reducible refine (HPT.out _ HX.out).mono ?_); rintro e w2 ⟨rfl, hf2⟩; have HX2 := Lib.hid (hf2.keep HX.out (fun h => h)); have HR2 := Lib.hid (hf2.keep HR.out (fun h => h)); have HF2 := Lib.hid (HF.out.then0 hf2); have HZ2 : Hid (Bk (w2.alloc (.cells ZERO 26)) w2.heap.size ZERO 26) := Lib.hid (Bk.new _ _); clear hf2) | ((with_reducible show wpList _ _ _ ({ dst := _, op := Op.store 26 _ _, type := _, pos := _, after := _, guard := _ } :: _) _ _); refine wpList_store_row rfl 26 _ _ rfl w2.heap.size RP rfl rfl 26 ZERO HZ2.out HIP.out HZP.out HOP.out ?_; change wpList _ _ _ _ _ ((w2.alloc (.cells ZERO 26)).setRow w2.heap.size RP); have hfx : Fr0 w2 ((w2.alloc (.cells ZERO 26)).setRow w2.heap.size RP) := ArrKit.Fr.row (Fr.alloc (Fr.refl _ _) _) _ _ (.inl (Nat.le_refl _)); have HP3 : Hid (Bk ((w2.alloc (.cells ZERO 26)).setRow w2.heap.size RP) w2.heap.size RP 26) := Lib.hid (ArrKit.Bk.row HZ2.out _); have HX3 := Lib.hid (hfx.keep HX2.out (fun h => h)); have HR3 := Lib.hid (hfx.keep HR2.out (fun h => h)); have HF3 := Lib.hid (HF2.out.then0 hfx); have q0 := (Bk.cell HX3.out 0).trans HB0.out; have q1 := (Bk.cell HX3.out 1).trans HB1.out; have q2 := (Bk.cell HX3.out 2).trans HB2.out; clear hfx; generalize ((w2.alloc (.cells ZERO 26)).setRow w2.heap.size RP) = w3 at *; generalize w2.heap.size = J at *; have HN3 : Hid (Bk (w3.alloc (.cells ZN 30)) w3.heap.size ZN 30) := Lib.hid (Bk.new _ _)) | ((with_reducible show wpList _ _ _ ({ dst := _, op := Op.build 30 #[], type := _, pos := _, after := _, guard := _ } :: _) _ _); refine PtrAsk.build_eq rfl 30 _ rfl ZN (by kernel_rfl) ?_) | ((with_reducible show wpList _ _ _ ({ dst := _, op := Op.store 30 _ _, type := _, pos := _, after := _, guard := _ } :: _) _ _); refine wpList_store_row rfl 30 _ _ rfl (w.heap.size + 1) ZN rfl rfl 30 ZN HR8.out info_n rfl ZN_one ?_) | ((with_reducible show wpList _ _ _ ({ dst := _, op := Op.load 26 _, type := _, pos := _, after := _, guard := _ } :: _) _ _); refine wpList_load_row_g (by rfl) 26 _ rfl J rfl 26 RP (0, 0) _ HP3.out Try.underlying26 rfl HIP.out ?_) | ((with_reducible show wpList _ _ _ ({ dst := _, op := Op.build 28 _, type := _, pos := _, after := _, guard := _ } :: _) _ _); refine PtrROf.build_ev rfl 28 _ rfl [(0, .agg RP), (1, .int .i64 (sz : Int)), (2, .int .i64 (y2 : Int))] (by simp [Act.eval, Act.put]) SL HBS.out ?_) | ((with_reducible show wpList _ _ _ ({ dst := _, op := Op.build 30 _, type := _, pos := _, after := _, guard := _ } :: _) _ _); refine PtrROf.build_ev rfl 30 _ rfl [(0, .int .i64 n), (1, .int .i64 (y0 : Int)), (2, .int .i64 (y1 : Int)), (3, .agg SL)] (by simp [Act.eval, Act.put]) XC HBT.out ?_) | ((with_reducible show wpList _ _ _ ({ dst := _, op := Op.store 30 _ _, type := _, pos := _, after := _, guard := _ } :: _) _ _); refine wpList_store_row rfl 30 _ _ rfl w3.heap.size XC rfl rfl 30 ZN HN3.out HIT.out HZT.out HOT.out ?_; change wpList _ _ _ _ _ ((w3.alloc (.cells ZN 30)).setRow w3.heap.size XC); have HK5 : Hid (Bk ((w3.alloc (.cells ZN 30)).setRow w3.heap.size XC) w3.heap.size XC 30) := Lib.hid (ArrKit.Bk.row HN3.out _); have hfy : Fr0 w3 ((w3.alloc (.cells ZN 30)).setRow w3.heap.size XC) := ArrKit.Fr.row (Fr.alloc (Fr.refl _ _) _) _ _ (.inl (Nat.le_refl _)); have HX5 := Lib.hid (hfy.keep HX3.out (fun h => h)); have HR5 := Lib.hid (hfy.keep HR3.out (fun h => h)); have HF5 := Lib.hid (HF3.out.then0 hfy); clear hfy q0 q1 q2; generalize ((w3.alloc (.cells ZN 30)).setRow w3.heap.size XC) = w5 at *; generalize w3.heap.size = K at *) | ((with_reducible show wpList _ _ _ ({ dst := _, op := Op.load 30 _, type := _, pos := _, after := _, guard := _ } :: _) _ _); refine wpList_load_row_g (by rfl) 30 _ rfl K rfl 30 XC (0, 0) _ HK5.out Try.underlying30 rfl HIT.out ?_) | (go_at_call 14; (with_reducible refine (HPU.out _).mono ?_); rintro e w7 ⟨rfl, hf7⟩; have HK7 := Lib.hid (hf7.keep HK5.out (fun h => h)); have HX7 := Lib.hid (hf7.keep HX5.out (fun h => h)); have HR7 := Lib.hid (hf7.keep HR5.out (fun h => h)); have HF7 := Lib.hid (HF5.out.then0 hf7); have HN7 : Hid (Bk (w7.alloc (.cells ZB 22)) w7.heap.size ZB 22) := Lib.hid (Bk.new _ _); clear hf7) | ((with_reducible show wpList _ _ _ ({ dst := _, op := Op.store 22 _ _, type := _, pos := _, after := _, guard := _ } :: _) _ _); refine wpList_store_row rfl 22 _ _ rfl w7.heap.size RB rfl rfl 22 ZB HN7.out HIRB.out HZRB.out HORB.out ?_; change wpList _ _ _ _ _ ((w7.alloc (.cells ZB 22)).setRow w7.heap.size RB); have HL8 : Hid (Bk ((w7.alloc (.cells ZB 22)).setRow w7.heap.size RB) w7.heap.size RB 22) := Lib.hid (ArrKit.Bk.row HN7.out _); have hfz : Fr0 w7 ((w7.alloc (.cells ZB 22)).setRow w7.heap.size RB) := ArrKit.Fr.row (Fr.alloc (Fr.refl _ _) _) _ _ (.inl (Nat.le_refl _)); have HK8 := Lib.hid (hfz.keep HK7.out (fun h => h)); have HX8 := Lib.hid (hfz.keep HX7.out (fun h => h)); have HR8 := Lib.hid (hfz.keep HR7.out (fun h => h)); have HF8 := Lib.hid (HF7.out.then0 hfz); clear hfz; generalize ((w7.alloc (.cells ZB 22)).setRow w7.heap.size RB) = w8 at *; generalize w7.heap.size = L at *) | ((with_reducible show wpList _ _ _ ({ dst := _, op := Op.load 22 _, type := _, pos := _, after := _, guard := _ } :: _) _ _); refine wpList_load_row_g (by rfl) 22 _ rfl L rfl 22 RB (0, 0) _ HL8.out Try.underlying22 rfl HIRB.out ?_) | ((with_reducible show wpList _ _ _ ({ dst := _, op := Op.load 22 _, type := _, pos := _, after := _, guard := _ } :: _) _ _); refine wpList_load_row_g (by rfl) 22 _ rfl w.heap.size rfl 22 X (0, 0) _ HX8.out Try.underlying22 rfl HIXB.out ?_) | ((with_reducible show wpList _ _ _ ({ dst := _, op := Op.load 30 _, type := _, pos := _, after := _, guard := _ } :: _) _ _); refine wpList_load_row_g (by rfl) 30 _ rfl K rfl 30 XC (0, 0) _ HK8.out Try.underlying30 rfl HIT.out ?_) | ((with_reducible show wpList _ _ _ ({ dst := _, op := Op.store 30 _ _, type := _, pos := _, after := _, guard := _ } :: _) _ _); refine wpList_store_row rfl 30 _ _ rfl (w.heap.size + 1) XC rfl rfl 30 ZN HR8.out HIT.out HZT.out HOT.out ?_))
  refine fin_ct (w.heap.size + 1) 30 ZN (.int .i64 15) (by rfl) (by rfl) (by rfl) (by rfl) Try.underlying30 (by rfl) info_n (ArrKit.Bk.row HR8.out _) ?_
  exact ⟨rfl, ArrKit.Fr.row HF8.out _ _ (.inl (by omega))⟩

set_option maxHeartbeats 2000000 in
set_option maxRecDepth 100000 in
theorem rtake_f (bl : List UInt8) (X : Array Value) (hX : (bl.map B).toArray = X) (hbl : bl.length = 64) (n : Int) (w : World) (hwn : (Lit.int .i64 n).wf = true) (h1 : 1 ≤ n) (h2 : n ≤ 64) (hza : allZ bl = false) (R : V3) (hR : R.ok) (htk : tkV (prt bl) = .tuple #[.agg R.pc.toArray, .int .i64 0]) (hE : ipE (rN bl n R) = 1) : Calls Try.prog 9 #[.agg X, .int .i64 n] w fun e w' => e = .returned (.tuple #[.agg ZN, .int .i64 15]) ∧ Fr0 w w' := by
  have c0 : decide (n < 1) = false := decide_eq_false (by omega)
  have c1 : decide (64 < n) = false := decide_eq_false (by omega)
  have HIXB : Hid ((Try.prog.info? 22).map (·.size) = some X.size) := Lib.hid (by rw [← hX, infoB, List.size_toArray, List.length_map, hbl])
  have heqz : ∀ W, (Op.equalIn 10000 22 (.agg X) (.agg ZB)).run Try.prog W = .ok false W := fun W => by
    have := eq_bytes (P := Try.prog) Try.underlying22 Try.underlying5 (by kernel_rfl) (by kernel_rfl) (by kernel_rfl) bl Z64 hbl Z64_len W
    rw [hX, ← allZ_eq hbl, hza] at this
    exact this
  have HRD : Hid (∀ W : World, Bk W w.heap.size X 22 → Rd W (some ⟨w.heap.size, 0, none⟩) bl) := Lib.hid (fun W h => Rd.block h (fun i hi => by rw [Nat.zero_add, ← hX]; simp [hi]))
  have HWT : Hid (∀ W : World, Bk W w.heap.size X 22 → Calls Try.prog 21 #[.slice (some ⟨w.heap.size, 0, none⟩) 64 64, .int .i64 4, .int .i64 4] W fun e w' => e = .returned (.tuple #[.int .i64 (szt bl : Int), .int .i64 0]) ∧ W = w') := Lib.hid (fun W h =>
    RefWord.take_ok w.heap.size 0 64 64 4 4 bl W hbl (HRD.out W h) (by omega) (by omega) (by omega) (by omega) (by omega) (by omega) (by have := num4 ((bl.drop 4).take 4) (by rw [List.length_take]; omega); omega))
  have HPT : Hid (∀ W : World, Bk W w.heap.size X 22 → Calls Try.prog 22 #[.slice (some ⟨w.heap.size, 0, none⟩) 64 64, .int .i64 8] W fun e w' => e = .returned (.tuple #[.agg R.pc.toArray, .int .i64 0]) ∧ Fr0 W w') := Lib.hid (fun W h => by
    have := PtrRTake.rtake_some w.heap.size 0 64 64 8 (prt bl) W (prt_length hbl) ((HRD.out W h).sub 8 40) (by omega) (by omega) (by omega) (by omega)
    rw [htk] at this
    exact this)
  have hok := rN_ok hbl hwn hR
  have HIP : Hid ((Try.prog.info? 26).map (·.size) = some R.pc.toArray.size) := Lib.hid (by rw [info_p, List.size_toArray, pc_length hR])
  have HZP : Hid (ZERO.size = R.pc.toArray.size) := Lib.hid ((show ZERO.size = 34 from rfl).trans (by rw [List.size_toArray, pc_length hR]))
  have HOP : Hid (R.pc.toArray.all (·.oneCell') = true) := Lib.hid (by simp [V3.pc, PC, B, Value.oneCell'])
  have HB0 : Hid (X[0]? = some (.int .u8 ((bl.getD 0 0).toNat : Int))) := Lib.hid (by rw [← hX]; exact getB bl 0 (by omega))
  have HB1 : Hid (X[1]? = some (.int .u8 ((bl.getD 1 0).toNat : Int))) := Lib.hid (by rw [← hX]; exact getB bl 1 (by omega))
  have HB2 : Hid (X[2]? = some (.int .u8 ((bl.getD 2 0).toNat : Int))) := Lib.hid (by rw [← hX]; exact getB bl 2 (by omega))
  have hv0 : (bl.getD 0 0).toNat < 256 := (bl.getD 0 0).toNat_lt
  have hv1 : (bl.getD 1 0).toNat < 256 := (bl.getD 1 0).toNat_lt
  have hv2 : (bl.getD 2 0).toNat < 256 := (bl.getD 2 0).toNat_lt
  have HPU : Hid (∀ W : World, Calls Try.prog 14 #[.agg (rN bl n R).cells.toArray] W fun e w' => e = .returned (.tuple #[.agg ((ipX (rN bl n R)).map B).toArray, .int .i64 (ipE (rN bl n R))]) ∧ Fr0 W w') := Lib.hid (fun W => rput_calls (rN bl n R) W hok)
  have HBT : Hid (Try.prog.built 30 [(0, .int .i64 n), (1, .int .i64 ((bl.getD 0 0).toNat : Int)), (2, .int .i64 ((bl.getD 1 0).toNat : Int)), (3, .agg (stm R (szt bl : Int) ((bl.getD 2 0).toNat : Int)).toArray)] = some (rN bl n R).cells.toArray) := Lib.hid (built_n4 n _ _ R _ _ hR)
  have HBS := Lib.hid (built_s3 R hR (szt bl : Int) ((bl.getD 2 0).toNat : Int))
  have HIT : Hid ((Try.prog.info? 30).map (·.size) = some (rN bl n R).cells.toArray.size) := Lib.hid (by rw [info_n, List.size_toArray, NV.cells_length hok])
  have HZT : Hid (ZN.size = (rN bl n R).cells.toArray.size) := Lib.hid (ZN_size.trans (by rw [List.size_toArray, NV.cells_length hok]))
  have HOT : Hid ((rN bl n R).cells.toArray.all (·.oneCell') = true) := Lib.hid cells_one
  have hpl := ipX_length hok
  have HIRB : Hid ((Try.prog.info? 22).map (·.size) = some ((ipX (rN bl n R)).map B).toArray.size) := Lib.hid (by rw [infoB, List.size_toArray, List.length_map, hpl])
  have HZRB : Hid (ZB.size = ((ipX (rN bl n R)).map B).toArray.size) := Lib.hid ((show ZB.size = 64 by simp [ZB, Z64]).trans (by rw [List.size_toArray, List.length_map, hpl]))
  have HORB : Hid (((ipX (rN bl n R)).map B).toArray.all (·.oneCell') = true) := Lib.hid (by simp [B, Value.oneCell'])
  rw [hE] at HPU
  clear hE
  have hs1 : (w.alloc (.cells X 22)).heap.size = w.heap.size + 1 := by simp
  have HX : Hid (Bk ((w.alloc (.cells X 22)).alloc (.cells ZN 30)) w.heap.size X 22) := Lib.hid (Bk.alloc (Bk.new w _) _)
  have HR : Hid (Bk ((w.alloc (.cells X 22)).alloc (.cells ZN 30)) (w.heap.size + 1) ZN 30) := Lib.hid (by have := Bk.new (w.alloc (.cells X 22)) (.cells ZN 30); rwa [hs1] at this)
  have HF : Hid (Fr0 w ((w.alloc (.cells X 22)).alloc (.cells ZN 30))) := Lib.hid (Fr.alloc (Fr.alloc (Fr.refl _ _) _) _)
  have hz : ∀ W, (zeroValue 30).run Try.prog W = .ok (.agg ZN) W := by intro W; kernel_rfl
  have hzb : ∀ W, (zeroValue 22).run Try.prog W = .ok (.agg ZB) W := by intro W; kernel_rfl
  clear hs1
  clear hX hbl hza hwn hok hpl htk
  generalize ((ipX (rN bl n R)).map B).toArray = RB at *
  generalize ipE (rN bl n R) = E at *
  generalize (rN bl n R).cells.toArray = XC at *
  generalize (bl.getD 0 0).toNat = y0 at *
  generalize (bl.getD 1 0).toNat = y1 at *
  generalize (bl.getD 2 0).toNat = y2 at *
  generalize (stm R (szt bl : Int) ((y2 : Nat) : Int)).toArray = SL at *
  generalize R.pc.toArray = RP at *
  generalize szt bl = sz at *
  clear hR
  go_enter Try.func9, Try.ntmps9
  go_wp2_with (first | ((with_reducible show wpList _ _ _ ({ dst := _, op := Op.load 22 _, type := _, pos := _, after := _, guard := _ } :: _) _ _); refine wpList_load_row_g (by rfl) 22 _ rfl w.heap.size rfl 22 X (0, 0) _ HX.out Try.underlying22 rfl HIXB.out ?_) | ((with_reducible show wpList _ _ _ ({ dst := _, op := Op.build 22 #[], type := _, pos := _, after := _, guard := _ } :: _) _ _); refine PtrAsk.build_eq rfl 22 _ rfl ZB (by kernel_rfl) ?_) | (go_at_call 21; (with_reducible refine (HWT.out _ HX.out).mono ?_); rintro e w1 ⟨rfl, rfl⟩) | (go_at_call 22; (with_reducible refine (HPT.out _ HX.out).mono ?_); rintro e w2 ⟨rfl, hf2⟩; have HX2 := Lib.hid (hf2.keep HX.out (fun h => h)); have HR2 := Lib.hid (hf2.keep HR.out (fun h => h)); have HF2 := Lib.hid (HF.out.then0 hf2); have HZ2 : Hid (Bk (w2.alloc (.cells ZERO 26)) w2.heap.size ZERO 26) := Lib.hid (Bk.new _ _); clear hf2) | ((with_reducible show wpList _ _ _ ({ dst := _, op := Op.store 26 _ _, type := _, pos := _, after := _, guard := _ } :: _) _ _); refine wpList_store_row rfl 26 _ _ rfl w2.heap.size RP rfl rfl 26 ZERO HZ2.out HIP.out HZP.out HOP.out ?_; change wpList _ _ _ _ _ ((w2.alloc (.cells ZERO 26)).setRow w2.heap.size RP); have hfx : Fr0 w2 ((w2.alloc (.cells ZERO 26)).setRow w2.heap.size RP) := ArrKit.Fr.row (Fr.alloc (Fr.refl _ _) _) _ _ (.inl (Nat.le_refl _)); have HP3 : Hid (Bk ((w2.alloc (.cells ZERO 26)).setRow w2.heap.size RP) w2.heap.size RP 26) := Lib.hid (ArrKit.Bk.row HZ2.out _); have HX3 := Lib.hid (hfx.keep HX2.out (fun h => h)); have HR3 := Lib.hid (hfx.keep HR2.out (fun h => h)); have HF3 := Lib.hid (HF2.out.then0 hfx); have q0 := (Bk.cell HX3.out 0).trans HB0.out; have q1 := (Bk.cell HX3.out 1).trans HB1.out; have q2 := (Bk.cell HX3.out 2).trans HB2.out; clear hfx; generalize ((w2.alloc (.cells ZERO 26)).setRow w2.heap.size RP) = w3 at *; generalize w2.heap.size = J at *; have HN3 : Hid (Bk (w3.alloc (.cells ZN 30)) w3.heap.size ZN 30) := Lib.hid (Bk.new _ _)) | ((with_reducible show wpList _ _ _ ({ dst := _, op := Op.build 30 #[], type := _, pos := _, after := _, guard := _ } :: _) _ _); refine PtrAsk.build_eq rfl 30 _ rfl ZN (by kernel_rfl) ?_) | ((with_reducible show wpList _ _ _ ({ dst := _, op := Op.store 30 _ _, type := _, pos := _, after := _, guard := _ } :: _) _ _); refine wpList_store_row rfl 30 _ _ rfl (w.heap.size + 1) ZN rfl rfl 30 ZN HR8.out info_n rfl ZN_one ?_) | ((with_reducible show wpList _ _ _ ({ dst := _, op := Op.load 26 _, type := _, pos := _, after := _, guard := _ } :: _) _ _); refine wpList_load_row_g (by rfl) 26 _ rfl J rfl 26 RP (0, 0) _ HP3.out Try.underlying26 rfl HIP.out ?_) | ((with_reducible show wpList _ _ _ ({ dst := _, op := Op.build 28 _, type := _, pos := _, after := _, guard := _ } :: _) _ _); refine PtrROf.build_ev rfl 28 _ rfl [(0, .agg RP), (1, .int .i64 (sz : Int)), (2, .int .i64 (y2 : Int))] (by simp [Act.eval, Act.put]) SL HBS.out ?_) | ((with_reducible show wpList _ _ _ ({ dst := _, op := Op.build 30 _, type := _, pos := _, after := _, guard := _ } :: _) _ _); refine PtrROf.build_ev rfl 30 _ rfl [(0, .int .i64 n), (1, .int .i64 (y0 : Int)), (2, .int .i64 (y1 : Int)), (3, .agg SL)] (by simp [Act.eval, Act.put]) XC HBT.out ?_) | ((with_reducible show wpList _ _ _ ({ dst := _, op := Op.store 30 _ _, type := _, pos := _, after := _, guard := _ } :: _) _ _); refine wpList_store_row rfl 30 _ _ rfl w3.heap.size XC rfl rfl 30 ZN HN3.out HIT.out HZT.out HOT.out ?_; change wpList _ _ _ _ _ ((w3.alloc (.cells ZN 30)).setRow w3.heap.size XC); have HK5 : Hid (Bk ((w3.alloc (.cells ZN 30)).setRow w3.heap.size XC) w3.heap.size XC 30) := Lib.hid (ArrKit.Bk.row HN3.out _); have hfy : Fr0 w3 ((w3.alloc (.cells ZN 30)).setRow w3.heap.size XC) := ArrKit.Fr.row (Fr.alloc (Fr.refl _ _) _) _ _ (.inl (Nat.le_refl _)); have HX5 := Lib.hid (hfy.keep HX3.out (fun h => h)); have HR5 := Lib.hid (hfy.keep HR3.out (fun h => h)); have HF5 := Lib.hid (HF3.out.then0 hfy); clear hfy q0 q1 q2; generalize ((w3.alloc (.cells ZN 30)).setRow w3.heap.size XC) = w5 at *; generalize w3.heap.size = K at *) | ((with_reducible show wpList _ _ _ ({ dst := _, op := Op.load 30 _, type := _, pos := _, after := _, guard := _ } :: _) _ _); refine wpList_load_row_g (by rfl) 30 _ rfl K rfl 30 XC (0, 0) _ HK5.out Try.underlying30 rfl HIT.out ?_) | (go_at_call 14; (with_reducible refine (HPU.out _).mono ?_); rintro e w7 ⟨rfl, hf7⟩; have HK7 := Lib.hid (hf7.keep HK5.out (fun h => h)); have HX7 := Lib.hid (hf7.keep HX5.out (fun h => h)); have HR7 := Lib.hid (hf7.keep HR5.out (fun h => h)); have HF7 := Lib.hid (HF5.out.then0 hf7); have HN7 : Hid (Bk (w7.alloc (.cells ZB 22)) w7.heap.size ZB 22) := Lib.hid (Bk.new _ _); clear hf7) | ((with_reducible show wpList _ _ _ ({ dst := _, op := Op.store 22 _ _, type := _, pos := _, after := _, guard := _ } :: _) _ _); refine wpList_store_row rfl 22 _ _ rfl w7.heap.size RB rfl rfl 22 ZB HN7.out HIRB.out HZRB.out HORB.out ?_; change wpList _ _ _ _ _ ((w7.alloc (.cells ZB 22)).setRow w7.heap.size RB); have HL8 : Hid (Bk ((w7.alloc (.cells ZB 22)).setRow w7.heap.size RB) w7.heap.size RB 22) := Lib.hid (ArrKit.Bk.row HN7.out _); have hfz : Fr0 w7 ((w7.alloc (.cells ZB 22)).setRow w7.heap.size RB) := ArrKit.Fr.row (Fr.alloc (Fr.refl _ _) _) _ _ (.inl (Nat.le_refl _)); have HK8 := Lib.hid (hfz.keep HK7.out (fun h => h)); have HX8 := Lib.hid (hfz.keep HX7.out (fun h => h)); have HR8 := Lib.hid (hfz.keep HR7.out (fun h => h)); have HF8 := Lib.hid (HF7.out.then0 hfz); clear hfz; generalize ((w7.alloc (.cells ZB 22)).setRow w7.heap.size RB) = w8 at *; generalize w7.heap.size = L at *) | ((with_reducible show wpList _ _ _ ({ dst := _, op := Op.load 22 _, type := _, pos := _, after := _, guard := _ } :: _) _ _); refine wpList_load_row_g (by rfl) 22 _ rfl L rfl 22 RB (0, 0) _ HL8.out Try.underlying22 rfl HIRB.out ?_) | ((with_reducible show wpList _ _ _ ({ dst := _, op := Op.load 22 _, type := _, pos := _, after := _, guard := _ } :: _) _ _); refine wpList_load_row_g (by rfl) 22 _ rfl w.heap.size rfl 22 X (0, 0) _ HX8.out Try.underlying22 rfl HIXB.out ?_) | ((with_reducible show wpList _ _ _ ({ dst := _, op := Op.load 30 _, type := _, pos := _, after := _, guard := _ } :: _) _ _); refine wpList_load_row_g (by rfl) 30 _ rfl K rfl 30 XC (0, 0) _ HK8.out Try.underlying30 rfl HIT.out ?_) | ((with_reducible show wpList _ _ _ ({ dst := _, op := Op.store 30 _ _, type := _, pos := _, after := _, guard := _ } :: _) _ _); refine wpList_store_row rfl 30 _ _ rfl (w.heap.size + 1) XC rfl rfl 30 ZN HR8.out HIT.out HZT.out HOT.out ?_))
  refine fin_ct (w.heap.size + 1) 30 ZN (.int .i64 15) (by rfl) (by rfl) (by rfl) (by rfl) Try.underlying30 (by rfl) info_n (ArrKit.Bk.row HR8.out _) ?_
  exact ⟨rfl, ArrKit.Fr.row HF8.out _ _ (.inl (by omega))⟩

set_option maxHeartbeats 2000000 in
set_option maxRecDepth 100000 in
theorem rtake_ne (bl : List UInt8) (X : Array Value) (hX : (bl.map B).toArray = X) (hbl : bl.length = 64) (n : Int) (w : World) (hwn : (Lit.int .i64 n).wf = true) (h1 : 1 ≤ n) (h2 : n ≤ 64) (hza : allZ bl = false) (R : V3) (hR : R.ok) (htk : tkV (prt bl) = .tuple #[.agg R.pc.toArray, .int .i64 0]) (hE : ipE (rN bl n R) = 0) (hD : decide (ipX (rN bl n R) = bl) = false) : Calls Try.prog 9 #[.agg X, .int .i64 n] w fun e w' => e = .returned (.tuple #[.agg ZN, .int .i64 15]) ∧ Fr0 w w' := by
  have c0 : decide (n < 1) = false := decide_eq_false (by omega)
  have c1 : decide (64 < n) = false := decide_eq_false (by omega)
  have HIXB : Hid ((Try.prog.info? 22).map (·.size) = some X.size) := Lib.hid (by rw [← hX, infoB, List.size_toArray, List.length_map, hbl])
  have heqz : ∀ W, (Op.equalIn 10000 22 (.agg X) (.agg ZB)).run Try.prog W = .ok false W := fun W => by
    have := eq_bytes (P := Try.prog) Try.underlying22 Try.underlying5 (by kernel_rfl) (by kernel_rfl) (by kernel_rfl) bl Z64 hbl Z64_len W
    rw [hX, ← allZ_eq hbl, hza] at this
    exact this
  have HRD : Hid (∀ W : World, Bk W w.heap.size X 22 → Rd W (some ⟨w.heap.size, 0, none⟩) bl) := Lib.hid (fun W h => Rd.block h (fun i hi => by rw [Nat.zero_add, ← hX]; simp [hi]))
  have HWT : Hid (∀ W : World, Bk W w.heap.size X 22 → Calls Try.prog 21 #[.slice (some ⟨w.heap.size, 0, none⟩) 64 64, .int .i64 4, .int .i64 4] W fun e w' => e = .returned (.tuple #[.int .i64 (szt bl : Int), .int .i64 0]) ∧ W = w') := Lib.hid (fun W h =>
    RefWord.take_ok w.heap.size 0 64 64 4 4 bl W hbl (HRD.out W h) (by omega) (by omega) (by omega) (by omega) (by omega) (by omega) (by have := num4 ((bl.drop 4).take 4) (by rw [List.length_take]; omega); omega))
  have HPT : Hid (∀ W : World, Bk W w.heap.size X 22 → Calls Try.prog 22 #[.slice (some ⟨w.heap.size, 0, none⟩) 64 64, .int .i64 8] W fun e w' => e = .returned (.tuple #[.agg R.pc.toArray, .int .i64 0]) ∧ Fr0 W w') := Lib.hid (fun W h => by
    have := PtrRTake.rtake_some w.heap.size 0 64 64 8 (prt bl) W (prt_length hbl) ((HRD.out W h).sub 8 40) (by omega) (by omega) (by omega) (by omega)
    rw [htk] at this
    exact this)
  have hok := rN_ok hbl hwn hR
  have HIP : Hid ((Try.prog.info? 26).map (·.size) = some R.pc.toArray.size) := Lib.hid (by rw [info_p, List.size_toArray, pc_length hR])
  have HZP : Hid (ZERO.size = R.pc.toArray.size) := Lib.hid ((show ZERO.size = 34 from rfl).trans (by rw [List.size_toArray, pc_length hR]))
  have HOP : Hid (R.pc.toArray.all (·.oneCell') = true) := Lib.hid (by simp [V3.pc, PC, B, Value.oneCell'])
  have HB0 : Hid (X[0]? = some (.int .u8 ((bl.getD 0 0).toNat : Int))) := Lib.hid (by rw [← hX]; exact getB bl 0 (by omega))
  have HB1 : Hid (X[1]? = some (.int .u8 ((bl.getD 1 0).toNat : Int))) := Lib.hid (by rw [← hX]; exact getB bl 1 (by omega))
  have HB2 : Hid (X[2]? = some (.int .u8 ((bl.getD 2 0).toNat : Int))) := Lib.hid (by rw [← hX]; exact getB bl 2 (by omega))
  have hv0 : (bl.getD 0 0).toNat < 256 := (bl.getD 0 0).toNat_lt
  have hv1 : (bl.getD 1 0).toNat < 256 := (bl.getD 1 0).toNat_lt
  have hv2 : (bl.getD 2 0).toNat < 256 := (bl.getD 2 0).toNat_lt
  have HPU : Hid (∀ W : World, Calls Try.prog 14 #[.agg (rN bl n R).cells.toArray] W fun e w' => e = .returned (.tuple #[.agg ((ipX (rN bl n R)).map B).toArray, .int .i64 (ipE (rN bl n R))]) ∧ Fr0 W w') := Lib.hid (fun W => rput_calls (rN bl n R) W hok)
  have HBT : Hid (Try.prog.built 30 [(0, .int .i64 n), (1, .int .i64 ((bl.getD 0 0).toNat : Int)), (2, .int .i64 ((bl.getD 1 0).toNat : Int)), (3, .agg (stm R (szt bl : Int) ((bl.getD 2 0).toNat : Int)).toArray)] = some (rN bl n R).cells.toArray) := Lib.hid (built_n4 n _ _ R _ _ hR)
  have HBS := Lib.hid (built_s3 R hR (szt bl : Int) ((bl.getD 2 0).toNat : Int))
  have HIT : Hid ((Try.prog.info? 30).map (·.size) = some (rN bl n R).cells.toArray.size) := Lib.hid (by rw [info_n, List.size_toArray, NV.cells_length hok])
  have HZT : Hid (ZN.size = (rN bl n R).cells.toArray.size) := Lib.hid (ZN_size.trans (by rw [List.size_toArray, NV.cells_length hok]))
  have HOT : Hid ((rN bl n R).cells.toArray.all (·.oneCell') = true) := Lib.hid cells_one
  have hpl := ipX_length hok
  have HIRB : Hid ((Try.prog.info? 22).map (·.size) = some ((ipX (rN bl n R)).map B).toArray.size) := Lib.hid (by rw [infoB, List.size_toArray, List.length_map, hpl])
  have HZRB : Hid (ZB.size = ((ipX (rN bl n R)).map B).toArray.size) := Lib.hid ((show ZB.size = 64 by simp [ZB, Z64]).trans (by rw [List.size_toArray, List.length_map, hpl]))
  have HORB : Hid (((ipX (rN bl n R)).map B).toArray.all (·.oneCell') = true) := Lib.hid (by simp [B, Value.oneCell'])
  have heqb : ∀ W, (Op.equalIn 10000 22 (.agg ((ipX (rN bl n R)).map B).toArray) (.agg X)).run Try.prog W = .ok false W := fun W => by
    rw [← hX, ← hD]
    exact eq_bytes (P := Try.prog) Try.underlying22 Try.underlying5 (by kernel_rfl) (by kernel_rfl) (by kernel_rfl) (ipX (rN bl n R)) bl hpl hbl W
  rw [hE] at HPU
  clear hE hD
  have hs1 : (w.alloc (.cells X 22)).heap.size = w.heap.size + 1 := by simp
  have HX : Hid (Bk ((w.alloc (.cells X 22)).alloc (.cells ZN 30)) w.heap.size X 22) := Lib.hid (Bk.alloc (Bk.new w _) _)
  have HR : Hid (Bk ((w.alloc (.cells X 22)).alloc (.cells ZN 30)) (w.heap.size + 1) ZN 30) := Lib.hid (by have := Bk.new (w.alloc (.cells X 22)) (.cells ZN 30); rwa [hs1] at this)
  have HF : Hid (Fr0 w ((w.alloc (.cells X 22)).alloc (.cells ZN 30))) := Lib.hid (Fr.alloc (Fr.alloc (Fr.refl _ _) _) _)
  have hz : ∀ W, (zeroValue 30).run Try.prog W = .ok (.agg ZN) W := by intro W; kernel_rfl
  have hzb : ∀ W, (zeroValue 22).run Try.prog W = .ok (.agg ZB) W := by intro W; kernel_rfl
  clear hs1
  clear hX hbl hza hwn hok hpl htk
  generalize ((ipX (rN bl n R)).map B).toArray = RB at *
  generalize ipE (rN bl n R) = E at *
  generalize (rN bl n R).cells.toArray = XC at *
  generalize (bl.getD 0 0).toNat = y0 at *
  generalize (bl.getD 1 0).toNat = y1 at *
  generalize (bl.getD 2 0).toNat = y2 at *
  generalize (stm R (szt bl : Int) ((y2 : Nat) : Int)).toArray = SL at *
  generalize R.pc.toArray = RP at *
  generalize szt bl = sz at *
  clear hR
  go_enter Try.func9, Try.ntmps9
  go_wp2_with (first | ((with_reducible show wpList _ _ _ ({ dst := _, op := Op.load 22 _, type := _, pos := _, after := _, guard := _ } :: _) _ _); refine wpList_load_row_g (by rfl) 22 _ rfl w.heap.size rfl 22 X (0, 0) _ HX.out Try.underlying22 rfl HIXB.out ?_) | ((with_reducible show wpList _ _ _ ({ dst := _, op := Op.build 22 #[], type := _, pos := _, after := _, guard := _ } :: _) _ _); refine PtrAsk.build_eq rfl 22 _ rfl ZB (by kernel_rfl) ?_) | (go_at_call 21; (with_reducible refine (HWT.out _ HX.out).mono ?_); rintro e w1 ⟨rfl, rfl⟩) | (go_at_call 22; (with_reducible refine (HPT.out _ HX.out).mono ?_); rintro e w2 ⟨rfl, hf2⟩; have HX2 := Lib.hid (hf2.keep HX.out (fun h => h)); have HR2 := Lib.hid (hf2.keep HR.out (fun h => h)); have HF2 := Lib.hid (HF.out.then0 hf2); have HZ2 : Hid (Bk (w2.alloc (.cells ZERO 26)) w2.heap.size ZERO 26) := Lib.hid (Bk.new _ _); clear hf2) | ((with_reducible show wpList _ _ _ ({ dst := _, op := Op.store 26 _ _, type := _, pos := _, after := _, guard := _ } :: _) _ _); refine wpList_store_row rfl 26 _ _ rfl w2.heap.size RP rfl rfl 26 ZERO HZ2.out HIP.out HZP.out HOP.out ?_; change wpList _ _ _ _ _ ((w2.alloc (.cells ZERO 26)).setRow w2.heap.size RP); have hfx : Fr0 w2 ((w2.alloc (.cells ZERO 26)).setRow w2.heap.size RP) := ArrKit.Fr.row (Fr.alloc (Fr.refl _ _) _) _ _ (.inl (Nat.le_refl _)); have HP3 : Hid (Bk ((w2.alloc (.cells ZERO 26)).setRow w2.heap.size RP) w2.heap.size RP 26) := Lib.hid (ArrKit.Bk.row HZ2.out _); have HX3 := Lib.hid (hfx.keep HX2.out (fun h => h)); have HR3 := Lib.hid (hfx.keep HR2.out (fun h => h)); have HF3 := Lib.hid (HF2.out.then0 hfx); have q0 := (Bk.cell HX3.out 0).trans HB0.out; have q1 := (Bk.cell HX3.out 1).trans HB1.out; have q2 := (Bk.cell HX3.out 2).trans HB2.out; clear hfx; generalize ((w2.alloc (.cells ZERO 26)).setRow w2.heap.size RP) = w3 at *; generalize w2.heap.size = J at *; have HN3 : Hid (Bk (w3.alloc (.cells ZN 30)) w3.heap.size ZN 30) := Lib.hid (Bk.new _ _)) | ((with_reducible show wpList _ _ _ ({ dst := _, op := Op.build 30 #[], type := _, pos := _, after := _, guard := _ } :: _) _ _); refine PtrAsk.build_eq rfl 30 _ rfl ZN (by kernel_rfl) ?_) | ((with_reducible show wpList _ _ _ ({ dst := _, op := Op.store 30 _ _, type := _, pos := _, after := _, guard := _ } :: _) _ _); refine wpList_store_row rfl 30 _ _ rfl (w.heap.size + 1) ZN rfl rfl 30 ZN HR8.out info_n rfl ZN_one ?_) | ((with_reducible show wpList _ _ _ ({ dst := _, op := Op.load 26 _, type := _, pos := _, after := _, guard := _ } :: _) _ _); refine wpList_load_row_g (by rfl) 26 _ rfl J rfl 26 RP (0, 0) _ HP3.out Try.underlying26 rfl HIP.out ?_) | ((with_reducible show wpList _ _ _ ({ dst := _, op := Op.build 28 _, type := _, pos := _, after := _, guard := _ } :: _) _ _); refine PtrROf.build_ev rfl 28 _ rfl [(0, .agg RP), (1, .int .i64 (sz : Int)), (2, .int .i64 (y2 : Int))] (by simp [Act.eval, Act.put]) SL HBS.out ?_) | ((with_reducible show wpList _ _ _ ({ dst := _, op := Op.build 30 _, type := _, pos := _, after := _, guard := _ } :: _) _ _); refine PtrROf.build_ev rfl 30 _ rfl [(0, .int .i64 n), (1, .int .i64 (y0 : Int)), (2, .int .i64 (y1 : Int)), (3, .agg SL)] (by simp [Act.eval, Act.put]) XC HBT.out ?_) | ((with_reducible show wpList _ _ _ ({ dst := _, op := Op.store 30 _ _, type := _, pos := _, after := _, guard := _ } :: _) _ _); refine wpList_store_row rfl 30 _ _ rfl w3.heap.size XC rfl rfl 30 ZN HN3.out HIT.out HZT.out HOT.out ?_; change wpList _ _ _ _ _ ((w3.alloc (.cells ZN 30)).setRow w3.heap.size XC); have HK5 : Hid (Bk ((w3.alloc (.cells ZN 30)).setRow w3.heap.size XC) w3.heap.size XC 30) := Lib.hid (ArrKit.Bk.row HN3.out _); have hfy : Fr0 w3 ((w3.alloc (.cells ZN 30)).setRow w3.heap.size XC) := ArrKit.Fr.row (Fr.alloc (Fr.refl _ _) _) _ _ (.inl (Nat.le_refl _)); have HX5 := Lib.hid (hfy.keep HX3.out (fun h => h)); have HR5 := Lib.hid (hfy.keep HR3.out (fun h => h)); have HF5 := Lib.hid (HF3.out.then0 hfy); clear hfy q0 q1 q2; generalize ((w3.alloc (.cells ZN 30)).setRow w3.heap.size XC) = w5 at *; generalize w3.heap.size = K at *) | ((with_reducible show wpList _ _ _ ({ dst := _, op := Op.load 30 _, type := _, pos := _, after := _, guard := _ } :: _) _ _); refine wpList_load_row_g (by rfl) 30 _ rfl K rfl 30 XC (0, 0) _ HK5.out Try.underlying30 rfl HIT.out ?_) | (go_at_call 14; (with_reducible refine (HPU.out _).mono ?_); rintro e w7 ⟨rfl, hf7⟩; have HK7 := Lib.hid (hf7.keep HK5.out (fun h => h)); have HX7 := Lib.hid (hf7.keep HX5.out (fun h => h)); have HR7 := Lib.hid (hf7.keep HR5.out (fun h => h)); have HF7 := Lib.hid (HF5.out.then0 hf7); have HN7 : Hid (Bk (w7.alloc (.cells ZB 22)) w7.heap.size ZB 22) := Lib.hid (Bk.new _ _); clear hf7) | ((with_reducible show wpList _ _ _ ({ dst := _, op := Op.store 22 _ _, type := _, pos := _, after := _, guard := _ } :: _) _ _); refine wpList_store_row rfl 22 _ _ rfl w7.heap.size RB rfl rfl 22 ZB HN7.out HIRB.out HZRB.out HORB.out ?_; change wpList _ _ _ _ _ ((w7.alloc (.cells ZB 22)).setRow w7.heap.size RB); have HL8 : Hid (Bk ((w7.alloc (.cells ZB 22)).setRow w7.heap.size RB) w7.heap.size RB 22) := Lib.hid (ArrKit.Bk.row HN7.out _); have hfz : Fr0 w7 ((w7.alloc (.cells ZB 22)).setRow w7.heap.size RB) := ArrKit.Fr.row (Fr.alloc (Fr.refl _ _) _) _ _ (.inl (Nat.le_refl _)); have HK8 := Lib.hid (hfz.keep HK7.out (fun h => h)); have HX8 := Lib.hid (hfz.keep HX7.out (fun h => h)); have HR8 := Lib.hid (hfz.keep HR7.out (fun h => h)); have HF8 := Lib.hid (HF7.out.then0 hfz); clear hfz; generalize ((w7.alloc (.cells ZB 22)).setRow w7.heap.size RB) = w8 at *; generalize w7.heap.size = L at *) | ((with_reducible show wpList _ _ _ ({ dst := _, op := Op.load 22 _, type := _, pos := _, after := _, guard := _ } :: _) _ _); refine wpList_load_row_g (by rfl) 22 _ rfl L rfl 22 RB (0, 0) _ HL8.out Try.underlying22 rfl HIRB.out ?_) | ((with_reducible show wpList _ _ _ ({ dst := _, op := Op.load 22 _, type := _, pos := _, after := _, guard := _ } :: _) _ _); refine wpList_load_row_g (by rfl) 22 _ rfl w.heap.size rfl 22 X (0, 0) _ HX8.out Try.underlying22 rfl HIXB.out ?_) | ((with_reducible show wpList _ _ _ ({ dst := _, op := Op.load 30 _, type := _, pos := _, after := _, guard := _ } :: _) _ _); refine wpList_load_row_g (by rfl) 30 _ rfl K rfl 30 XC (0, 0) _ HK8.out Try.underlying30 rfl HIT.out ?_) | ((with_reducible show wpList _ _ _ ({ dst := _, op := Op.store 30 _ _, type := _, pos := _, after := _, guard := _ } :: _) _ _); refine wpList_store_row rfl 30 _ _ rfl (w.heap.size + 1) XC rfl rfl 30 ZN HR8.out HIT.out HZT.out HOT.out ?_))
  refine fin_ct (w.heap.size + 1) 30 ZN (.int .i64 15) (by rfl) (by rfl) (by rfl) (by rfl) Try.underlying30 (by rfl) info_n (ArrKit.Bk.row HR8.out _) ?_
  exact ⟨rfl, ArrKit.Fr.row HF8.out _ _ (.inl (by omega))⟩

set_option maxHeartbeats 2000000 in
set_option maxRecDepth 100000 in
theorem rtake_good (bl : List UInt8) (X : Array Value) (hX : (bl.map B).toArray = X) (hbl : bl.length = 64) (n : Int) (w : World) (hwn : (Lit.int .i64 n).wf = true) (h1 : 1 ≤ n) (h2 : n ≤ 64) (hza : allZ bl = false) (R : V3) (hR : R.ok) (htk : tkV (prt bl) = .tuple #[.agg R.pc.toArray, .int .i64 0]) (hE : ipE (rN bl n R) = 0) (hD : decide (ipX (rN bl n R) = bl) = true) : Calls Try.prog 9 #[.agg X, .int .i64 n] w fun e w' => e = .returned (.tuple #[.agg (rN bl n R).cells.toArray, .int .i64 0]) ∧ Fr0 w w' := by
  have c0 : decide (n < 1) = false := decide_eq_false (by omega)
  have c1 : decide (64 < n) = false := decide_eq_false (by omega)
  have HIXB : Hid ((Try.prog.info? 22).map (·.size) = some X.size) := Lib.hid (by rw [← hX, infoB, List.size_toArray, List.length_map, hbl])
  have heqz : ∀ W, (Op.equalIn 10000 22 (.agg X) (.agg ZB)).run Try.prog W = .ok false W := fun W => by
    have := eq_bytes (P := Try.prog) Try.underlying22 Try.underlying5 (by kernel_rfl) (by kernel_rfl) (by kernel_rfl) bl Z64 hbl Z64_len W
    rw [hX, ← allZ_eq hbl, hza] at this
    exact this
  have HRD : Hid (∀ W : World, Bk W w.heap.size X 22 → Rd W (some ⟨w.heap.size, 0, none⟩) bl) := Lib.hid (fun W h => Rd.block h (fun i hi => by rw [Nat.zero_add, ← hX]; simp [hi]))
  have HWT : Hid (∀ W : World, Bk W w.heap.size X 22 → Calls Try.prog 21 #[.slice (some ⟨w.heap.size, 0, none⟩) 64 64, .int .i64 4, .int .i64 4] W fun e w' => e = .returned (.tuple #[.int .i64 (szt bl : Int), .int .i64 0]) ∧ W = w') := Lib.hid (fun W h =>
    RefWord.take_ok w.heap.size 0 64 64 4 4 bl W hbl (HRD.out W h) (by omega) (by omega) (by omega) (by omega) (by omega) (by omega) (by have := num4 ((bl.drop 4).take 4) (by rw [List.length_take]; omega); omega))
  have HPT : Hid (∀ W : World, Bk W w.heap.size X 22 → Calls Try.prog 22 #[.slice (some ⟨w.heap.size, 0, none⟩) 64 64, .int .i64 8] W fun e w' => e = .returned (.tuple #[.agg R.pc.toArray, .int .i64 0]) ∧ Fr0 W w') := Lib.hid (fun W h => by
    have := PtrRTake.rtake_some w.heap.size 0 64 64 8 (prt bl) W (prt_length hbl) ((HRD.out W h).sub 8 40) (by omega) (by omega) (by omega) (by omega)
    rw [htk] at this
    exact this)
  have hok := rN_ok hbl hwn hR
  have HIP : Hid ((Try.prog.info? 26).map (·.size) = some R.pc.toArray.size) := Lib.hid (by rw [info_p, List.size_toArray, pc_length hR])
  have HZP : Hid (ZERO.size = R.pc.toArray.size) := Lib.hid ((show ZERO.size = 34 from rfl).trans (by rw [List.size_toArray, pc_length hR]))
  have HOP : Hid (R.pc.toArray.all (·.oneCell') = true) := Lib.hid (by simp [V3.pc, PC, B, Value.oneCell'])
  have HB0 : Hid (X[0]? = some (.int .u8 ((bl.getD 0 0).toNat : Int))) := Lib.hid (by rw [← hX]; exact getB bl 0 (by omega))
  have HB1 : Hid (X[1]? = some (.int .u8 ((bl.getD 1 0).toNat : Int))) := Lib.hid (by rw [← hX]; exact getB bl 1 (by omega))
  have HB2 : Hid (X[2]? = some (.int .u8 ((bl.getD 2 0).toNat : Int))) := Lib.hid (by rw [← hX]; exact getB bl 2 (by omega))
  have hv0 : (bl.getD 0 0).toNat < 256 := (bl.getD 0 0).toNat_lt
  have hv1 : (bl.getD 1 0).toNat < 256 := (bl.getD 1 0).toNat_lt
  have hv2 : (bl.getD 2 0).toNat < 256 := (bl.getD 2 0).toNat_lt
  have HPU : Hid (∀ W : World, Calls Try.prog 14 #[.agg (rN bl n R).cells.toArray] W fun e w' => e = .returned (.tuple #[.agg ((ipX (rN bl n R)).map B).toArray, .int .i64 (ipE (rN bl n R))]) ∧ Fr0 W w') := Lib.hid (fun W => rput_calls (rN bl n R) W hok)
  have HBT : Hid (Try.prog.built 30 [(0, .int .i64 n), (1, .int .i64 ((bl.getD 0 0).toNat : Int)), (2, .int .i64 ((bl.getD 1 0).toNat : Int)), (3, .agg (stm R (szt bl : Int) ((bl.getD 2 0).toNat : Int)).toArray)] = some (rN bl n R).cells.toArray) := Lib.hid (built_n4 n _ _ R _ _ hR)
  have HBS := Lib.hid (built_s3 R hR (szt bl : Int) ((bl.getD 2 0).toNat : Int))
  have HIT : Hid ((Try.prog.info? 30).map (·.size) = some (rN bl n R).cells.toArray.size) := Lib.hid (by rw [info_n, List.size_toArray, NV.cells_length hok])
  have HZT : Hid (ZN.size = (rN bl n R).cells.toArray.size) := Lib.hid (ZN_size.trans (by rw [List.size_toArray, NV.cells_length hok]))
  have HOT : Hid ((rN bl n R).cells.toArray.all (·.oneCell') = true) := Lib.hid cells_one
  have hpl := ipX_length hok
  have HIRB : Hid ((Try.prog.info? 22).map (·.size) = some ((ipX (rN bl n R)).map B).toArray.size) := Lib.hid (by rw [infoB, List.size_toArray, List.length_map, hpl])
  have HZRB : Hid (ZB.size = ((ipX (rN bl n R)).map B).toArray.size) := Lib.hid ((show ZB.size = 64 by simp [ZB, Z64]).trans (by rw [List.size_toArray, List.length_map, hpl]))
  have HORB : Hid (((ipX (rN bl n R)).map B).toArray.all (·.oneCell') = true) := Lib.hid (by simp [B, Value.oneCell'])
  have heqb : ∀ W, (Op.equalIn 10000 22 (.agg ((ipX (rN bl n R)).map B).toArray) (.agg X)).run Try.prog W = .ok true W := fun W => by
    rw [← hX, ← hD]
    exact eq_bytes (P := Try.prog) Try.underlying22 Try.underlying5 (by kernel_rfl) (by kernel_rfl) (by kernel_rfl) (ipX (rN bl n R)) bl hpl hbl W
  rw [hE] at HPU
  clear hE hD
  have hs1 : (w.alloc (.cells X 22)).heap.size = w.heap.size + 1 := by simp
  have HX : Hid (Bk ((w.alloc (.cells X 22)).alloc (.cells ZN 30)) w.heap.size X 22) := Lib.hid (Bk.alloc (Bk.new w _) _)
  have HR : Hid (Bk ((w.alloc (.cells X 22)).alloc (.cells ZN 30)) (w.heap.size + 1) ZN 30) := Lib.hid (by have := Bk.new (w.alloc (.cells X 22)) (.cells ZN 30); rwa [hs1] at this)
  have HF : Hid (Fr0 w ((w.alloc (.cells X 22)).alloc (.cells ZN 30))) := Lib.hid (Fr.alloc (Fr.alloc (Fr.refl _ _) _) _)
  have hz : ∀ W, (zeroValue 30).run Try.prog W = .ok (.agg ZN) W := by intro W; kernel_rfl
  have hzb : ∀ W, (zeroValue 22).run Try.prog W = .ok (.agg ZB) W := by intro W; kernel_rfl
  clear hs1
  clear hX hbl hza hwn hok hpl htk
  generalize ((ipX (rN bl n R)).map B).toArray = RB at *
  generalize ipE (rN bl n R) = E at *
  generalize (rN bl n R).cells.toArray = XC at *
  generalize (bl.getD 0 0).toNat = y0 at *
  generalize (bl.getD 1 0).toNat = y1 at *
  generalize (bl.getD 2 0).toNat = y2 at *
  generalize (stm R (szt bl : Int) ((y2 : Nat) : Int)).toArray = SL at *
  generalize R.pc.toArray = RP at *
  generalize szt bl = sz at *
  clear hR
  go_enter Try.func9, Try.ntmps9
  go_wp2_with (first | ((with_reducible show wpList _ _ _ ({ dst := _, op := Op.load 22 _, type := _, pos := _, after := _, guard := _ } :: _) _ _); refine wpList_load_row_g (by rfl) 22 _ rfl w.heap.size rfl 22 X (0, 0) _ HX.out Try.underlying22 rfl HIXB.out ?_) | ((with_reducible show wpList _ _ _ ({ dst := _, op := Op.build 22 #[], type := _, pos := _, after := _, guard := _ } :: _) _ _); refine PtrAsk.build_eq rfl 22 _ rfl ZB (by kernel_rfl) ?_) | (go_at_call 21; (with_reducible refine (HWT.out _ HX.out).mono ?_); rintro e w1 ⟨rfl, rfl⟩) | (go_at_call 22; (with_reducible refine (HPT.out _ HX.out).mono ?_); rintro e w2 ⟨rfl, hf2⟩; have HX2 := Lib.hid (hf2.keep HX.out (fun h => h)); have HR2 := Lib.hid (hf2.keep HR.out (fun h => h)); have HF2 := Lib.hid (HF.out.then0 hf2); have HZ2 : Hid (Bk (w2.alloc (.cells ZERO 26)) w2.heap.size ZERO 26) := Lib.hid (Bk.new _ _); clear hf2) | ((with_reducible show wpList _ _ _ ({ dst := _, op := Op.store 26 _ _, type := _, pos := _, after := _, guard := _ } :: _) _ _); refine wpList_store_row rfl 26 _ _ rfl w2.heap.size RP rfl rfl 26 ZERO HZ2.out HIP.out HZP.out HOP.out ?_; change wpList _ _ _ _ _ ((w2.alloc (.cells ZERO 26)).setRow w2.heap.size RP); have hfx : Fr0 w2 ((w2.alloc (.cells ZERO 26)).setRow w2.heap.size RP) := ArrKit.Fr.row (Fr.alloc (Fr.refl _ _) _) _ _ (.inl (Nat.le_refl _)); have HP3 : Hid (Bk ((w2.alloc (.cells ZERO 26)).setRow w2.heap.size RP) w2.heap.size RP 26) := Lib.hid (ArrKit.Bk.row HZ2.out _); have HX3 := Lib.hid (hfx.keep HX2.out (fun h => h)); have HR3 := Lib.hid (hfx.keep HR2.out (fun h => h)); have HF3 := Lib.hid (HF2.out.then0 hfx); have q0 := (Bk.cell HX3.out 0).trans HB0.out; have q1 := (Bk.cell HX3.out 1).trans HB1.out; have q2 := (Bk.cell HX3.out 2).trans HB2.out; clear hfx; generalize ((w2.alloc (.cells ZERO 26)).setRow w2.heap.size RP) = w3 at *; generalize w2.heap.size = J at *; have HN3 : Hid (Bk (w3.alloc (.cells ZN 30)) w3.heap.size ZN 30) := Lib.hid (Bk.new _ _)) | ((with_reducible show wpList _ _ _ ({ dst := _, op := Op.build 30 #[], type := _, pos := _, after := _, guard := _ } :: _) _ _); refine PtrAsk.build_eq rfl 30 _ rfl ZN (by kernel_rfl) ?_) | ((with_reducible show wpList _ _ _ ({ dst := _, op := Op.store 30 _ _, type := _, pos := _, after := _, guard := _ } :: _) _ _); refine wpList_store_row rfl 30 _ _ rfl (w.heap.size + 1) ZN rfl rfl 30 ZN HR8.out info_n rfl ZN_one ?_) | ((with_reducible show wpList _ _ _ ({ dst := _, op := Op.load 26 _, type := _, pos := _, after := _, guard := _ } :: _) _ _); refine wpList_load_row_g (by rfl) 26 _ rfl J rfl 26 RP (0, 0) _ HP3.out Try.underlying26 rfl HIP.out ?_) | ((with_reducible show wpList _ _ _ ({ dst := _, op := Op.build 28 _, type := _, pos := _, after := _, guard := _ } :: _) _ _); refine PtrROf.build_ev rfl 28 _ rfl [(0, .agg RP), (1, .int .i64 (sz : Int)), (2, .int .i64 (y2 : Int))] (by simp [Act.eval, Act.put]) SL HBS.out ?_) | ((with_reducible show wpList _ _ _ ({ dst := _, op := Op.build 30 _, type := _, pos := _, after := _, guard := _ } :: _) _ _); refine PtrROf.build_ev rfl 30 _ rfl [(0, .int .i64 n), (1, .int .i64 (y0 : Int)), (2, .int .i64 (y1 : Int)), (3, .agg SL)] (by simp [Act.eval, Act.put]) XC HBT.out ?_) | ((with_reducible show wpList _ _ _ ({ dst := _, op := Op.store 30 _ _, type := _, pos := _, after := _, guard := _ } :: _) _ _); refine wpList_store_row rfl 30 _ _ rfl w3.heap.size XC rfl rfl 30 ZN HN3.out HIT.out HZT.out HOT.out ?_; change wpList _ _ _ _ _ ((w3.alloc (.cells ZN 30)).setRow w3.heap.size XC); have HK5 : Hid (Bk ((w3.alloc (.cells ZN 30)).setRow w3.heap.size XC) w3.heap.size XC 30) := Lib.hid (ArrKit.Bk.row HN3.out _); have hfy : Fr0 w3 ((w3.alloc (.cells ZN 30)).setRow w3.heap.size XC) := ArrKit.Fr.row (Fr.alloc (Fr.refl _ _) _) _ _ (.inl (Nat.le_refl _)); have HX5 := Lib.hid (hfy.keep HX3.out (fun h => h)); have HR5 := Lib.hid (hfy.keep HR3.out (fun h => h)); have HF5 := Lib.hid (HF3.out.then0 hfy); clear hfy q0 q1 q2; generalize ((w3.alloc (.cells ZN 30)).setRow w3.heap.size XC) = w5 at *; generalize w3.heap.size = K at *) | ((with_reducible show wpList _ _ _ ({ dst := _, op := Op.load 30 _, type := _, pos := _, after := _, guard := _ } :: _) _ _); refine wpList_load_row_g (by rfl) 30 _ rfl K rfl 30 XC (0, 0) _ HK5.out Try.underlying30 rfl HIT.out ?_) | (go_at_call 14; (with_reducible refine (HPU.out _).mono ?_); rintro e w7 ⟨rfl, hf7⟩; have HK7 := Lib.hid (hf7.keep HK5.out (fun h => h)); have HX7 := Lib.hid (hf7.keep HX5.out (fun h => h)); have HR7 := Lib.hid (hf7.keep HR5.out (fun h => h)); have HF7 := Lib.hid (HF5.out.then0 hf7); have HN7 : Hid (Bk (w7.alloc (.cells ZB 22)) w7.heap.size ZB 22) := Lib.hid (Bk.new _ _); clear hf7) | ((with_reducible show wpList _ _ _ ({ dst := _, op := Op.store 22 _ _, type := _, pos := _, after := _, guard := _ } :: _) _ _); refine wpList_store_row rfl 22 _ _ rfl w7.heap.size RB rfl rfl 22 ZB HN7.out HIRB.out HZRB.out HORB.out ?_; change wpList _ _ _ _ _ ((w7.alloc (.cells ZB 22)).setRow w7.heap.size RB); have HL8 : Hid (Bk ((w7.alloc (.cells ZB 22)).setRow w7.heap.size RB) w7.heap.size RB 22) := Lib.hid (ArrKit.Bk.row HN7.out _); have hfz : Fr0 w7 ((w7.alloc (.cells ZB 22)).setRow w7.heap.size RB) := ArrKit.Fr.row (Fr.alloc (Fr.refl _ _) _) _ _ (.inl (Nat.le_refl _)); have HK8 := Lib.hid (hfz.keep HK7.out (fun h => h)); have HX8 := Lib.hid (hfz.keep HX7.out (fun h => h)); have HR8 := Lib.hid (hfz.keep HR7.out (fun h => h)); have HF8 := Lib.hid (HF7.out.then0 hfz); clear hfz; generalize ((w7.alloc (.cells ZB 22)).setRow w7.heap.size RB) = w8 at *; generalize w7.heap.size = L at *) | ((with_reducible show wpList _ _ _ ({ dst := _, op := Op.load 22 _, type := _, pos := _, after := _, guard := _ } :: _) _ _); refine wpList_load_row_g (by rfl) 22 _ rfl L rfl 22 RB (0, 0) _ HL8.out Try.underlying22 rfl HIRB.out ?_) | ((with_reducible show wpList _ _ _ ({ dst := _, op := Op.load 22 _, type := _, pos := _, after := _, guard := _ } :: _) _ _); refine wpList_load_row_g (by rfl) 22 _ rfl w.heap.size rfl 22 X (0, 0) _ HX8.out Try.underlying22 rfl HIXB.out ?_) | ((with_reducible show wpList _ _ _ ({ dst := _, op := Op.load 30 _, type := _, pos := _, after := _, guard := _ } :: _) _ _); refine wpList_load_row_g (by rfl) 30 _ rfl K rfl 30 XC (0, 0) _ HK8.out Try.underlying30 rfl HIT.out ?_) | ((with_reducible show wpList _ _ _ ({ dst := _, op := Op.store 30 _ _, type := _, pos := _, after := _, guard := _ } :: _) _ _); refine wpList_store_row rfl 30 _ _ rfl (w.heap.size + 1) XC rfl rfl 30 ZN HR8.out HIT.out HZT.out HOT.out ?_))
  refine fin_ct (w.heap.size + 1) 30 XC (.int .i64 0) (by rfl) (by rfl) (by rfl) (by rfl) Try.underlying30 (by rfl) HIT.out (ArrKit.Bk.row HR8.out _) ?_
  exact ⟨rfl, ArrKit.Fr.row HF8.out _ _ (.inl (by omega))⟩

/-- TAKE: what the reference's Take answers. -/
theorem rtake_calls (bl : List UInt8) (X : Array Value) (hX : (bl.map B).toArray = X) (hbl : bl.length = 64) (n : Int) (hwn : (Lit.int .i64 n).wf = true) (w : World) : Calls Try.prog 9 #[.agg X, .int .i64 n] w fun e w' => e = .returned (.tuple #[.agg (itX bl n), .int .i64 (itE bl n)]) ∧ Fr0 w w' := by
  by_cases h1 : n < 1
  · rw [show itX bl n = ZN by unfold itX takes; rw [decide_eq_false (by omega)]; rfl, show itE bl n = 1 by unfold itE; rw [if_pos (.inl h1)]]
    exact rtake_low X n w h1
  by_cases h2 : 64 < n
  · rw [show itX bl n = ZN by unfold itX takes; rw [decide_eq_false (p := n ≤ 64) (by omega)]; simp, show itE bl n = 1 by unfold itE; rw [if_pos (.inr h2)]]
    exact rtake_high X n w h2
  have hn : ¬ (n < 1 ∨ 64 < n) := by omega
  cases hza : allZ bl with
  | true =>
    rw [show itX bl n = ZN by unfold itX takes; rw [hza]; simp, show itE bl n = 4 by unfold itE; rw [if_neg hn, hza]; rfl]
    exact rtake_zero bl X hX hbl n w (by omega) (by omega) hza
  | false =>
    have key : takes bl n = false → itX bl n = ZN ∧ itE bl n = 15 := fun h => by
      unfold itX itE
      rw [h, if_neg hn, hza]
      exact ⟨rfl, rfl⟩
    cases htk : tkR (prt bl) with
    | false =>
      obtain ⟨e1, e2⟩ := key (by unfold takes; rw [htk]; simp)
      rw [e1, e2]
      exact rtake_e bl X hX hbl n w hwn (by omega) (by omega) hza ⟨0, 0, Z⟩ ⟨Z_len, (by show (Lit.int .i64 0).wf = true; decide), (by show (Lit.int .i64 0).wf = true; decide)⟩ (by rw [tkV, htk]; rfl)
    | true =>
      have hR : (tN bl n).root.ok := (tN_ok hbl hwn).root
      have htv : tkV (prt bl) = .tuple #[.agg (tN bl n).root.pc.toArray, .int .i64 0] := by rw [tkV, htk]; rfl
      rcases ipE_cases (tN bl n) with hE | hE
      · cases hD : decide (ipX (tN bl n) = bl) with
        | false =>
          obtain ⟨e1, e2⟩ := key (by unfold takes; rw [hD]; simp)
          rw [e1, e2]
          exact rtake_ne bl X hX hbl n w hwn (by omega) (by omega) hza _ hR htv hE hD
        | true =>
          have ht : takes bl n = true := by
            unfold takes
            rw [hD, hza, htk, decide_eq_true hE, decide_eq_true (show (1 : Int) ≤ n by omega), decide_eq_true (show n ≤ 64 by omega)]
            rfl
          have e1 : itX bl n = (tN bl n).cells.toArray := by unfold itX; rw [ht]; rfl
          have e2 : itE bl n = 0 := by unfold itE; rw [ht, if_neg hn, hza]; rfl
          rw [e1, e2]
          exact rtake_good bl X hX hbl n w hwn (by omega) (by omega) hza _ hR htv hE hD
      · obtain ⟨e1, e2⟩ := key (by unfold takes; rw [hE]; simp)
        rw [e1, e2]
        exact rtake_f bl X hX hbl n w hwn (by omega) (by omega) hza _ hR htv hE

end Go.Proofs.Ytfjkbabeceaelaa.InoRTake
