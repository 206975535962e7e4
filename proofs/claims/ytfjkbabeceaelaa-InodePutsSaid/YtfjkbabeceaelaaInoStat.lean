/- What is told of a node: the walks of inode.Stat and of the reference. -/
import Derived.Test.YtfjkbabeceaelaaInoPut
set_option linter.unusedVariables false
set_option linter.unusedSimpArgs false
namespace Go.Proofs.Ytfjkbabeceaelaa.InoStat
open Go Go.RowKit Go.Proofs.Ytfjkbabeceaelaa.K Go.Proofs.Ytfjkbabeceaelaa.EqKit Go.Proofs.Ytfjkbabeceaelaa.PtrKit Go.Proofs.Ytfjkbabeceaelaa.ArrKit Go.Proofs.Ytfjkbabeceaelaa.HeldKit Go.Proofs.Ytfjkbabeceaelaa.PtrAsk Go.Proofs.Ytfjkbabeceaelaa.PtrRRight Go.Proofs.Ytfjkbabeceaelaa.ShaStep Go.Proofs.Ytfjkbabeceaelaa.ShaSum Go.Proofs.Ytfjkbabeceaelaa.PtrOf Go.Proofs.Ytfjkbabeceaelaa.PtrROf Go.Proofs.Ytfjkbabeceaelaa.WordPut Go.Proofs.Ytfjkbabeceaelaa.WordTake Go.Proofs.Ytfjkbabeceaelaa.InoKit Go.Proofs.Ytfjkbabeceaelaa.InoRRight Go.Proofs.Ytfjkbabeceaelaa.InoNew Go.Proofs.Ytfjkbabeceaelaa.InoPut

def ZT : Array Value := #[.int .i64 0, .int .i64 0, .int .i64 0, .int .i64 0, .int .i64 0, .int .i64 0]
def TS (x : NV) (b : Int) : Array Value := #[.int .i64 x.num, .int .i64 x.kind, .int .i64 x.cps, .int .i64 x.links, .int .i64 x.size, .int .i64 b]
theorem info_t : (Try.prog.info? 42).map (·.size) = some 6 := by kernel_rfl
theorem ZT_one : ZT.all (·.oneCell') = true := by simp [ZT, Value.oneCell']
theorem TS_one (x : NV) (b : Int) : (TS x b).all (·.oneCell') = true := by simp [TS, Value.oneCell']
theorem built_t (x : NV) (b : Int) : Try.prog.built 42 [(0, .int .i64 x.num), (1, .int .i64 x.kind), (2, .int .i64 x.cps), (3, .int .i64 x.links), (4, .int .i64 x.size), (5, .int .i64 b)] = some (TS x b) := by
  show _ = _
  kernel_rfl

set_option maxHeartbeats 2000000 in
set_option maxRecDepth 100000 in
theorem stat_neg (x : NV) (b : Int) (w : World) (hx : x.ok) (h : b < 0) : Calls Try.prog 15 #[.agg x.cells.toArray, .int .i64 b] w fun e w' => e = .returned (.tuple #[.agg ZT, .int .i64 1]) ∧ Fr0 w w' := by
  have c0 : decide (b < 0) = true := decide_eq_true (by omega)
  have hz : ∀ W, (zeroValue 42).run Try.prog W = .ok (.agg ZT) W := by intro W; kernel_rfl
  have HRI : Hid (∀ W : World, Calls Try.prog 17 #[.agg x.cells.toArray] W fun e w' => e = .returned (.bool (nR x)) ∧ Fr0 W w') := Lib.hid (fun W => by
    have := nright_calls x W hx
    skip
    exact this)
  have HIN : Hid ((Try.prog.info? 30).map (·.size) = some x.cells.toArray.size) := Lib.hid (by rw [info_n, List.size_toArray, NV.cells_length hx])
  have hs1 : (w.alloc (.cells x.cells.toArray 30)).heap.size = w.heap.size + 1 := by simp
  have HX : Hid (Bk ((w.alloc (.cells x.cells.toArray 30)).alloc (.cells ZT 42)) w.heap.size x.cells.toArray 30) := Lib.hid (Bk.alloc (Bk.new w _) _)
  have HR : Hid (Bk ((w.alloc (.cells x.cells.toArray 30)).alloc (.cells ZT 42)) (w.heap.size + 1) ZT 42) := Lib.hid (by have := Bk.new (w.alloc (.cells x.cells.toArray 30)) (.cells ZT 42); rwa [hs1] at this)
  have HF : Hid (Fr0 w ((w.alloc (.cells x.cells.toArray 30)).alloc (.cells ZT 42))) := Lib.hid (Fr.alloc (Fr.alloc (Fr.refl _ _) _) _)
  have hc := Has.of hx HX.out
  have q0 := hc.num
  have q1 := hc.kind
  have q2 := hc.links
  have q3 := hc.size
  have q4 := hc.cps
  have HOK := Lib.hid hx
  have HBT := Lib.hid (built_t x b)
  have HTO := Lib.hid (TS_one x b)
  have HTI : Hid ((Try.prog.info? 42).map (·.size) = some (TS x b).size) := Lib.hid info_t
  have HTZ : Hid (ZT.size = (TS x b).size) := Lib.hid rfl
  clear hs1 hx hc
  generalize TS x b = T at *
  generalize hX : x.cells.toArray = X at *
  have HXX := Lib.hid hX
  clear hX
  go_enter Try.func15, Try.ntmps15
  go_wp2_with (first | ((with_reducible show wpList _ _ _ ({ dst := _, op := Op.load 30 _, type := _, pos := _, after := _, guard := _ } :: _) _ _); refine wpList_load_row_g (by rfl) 30 _ rfl w.heap.size rfl 30 X (0, 0) _ HX.out Try.underlying30 rfl HIN.out ?_) | (go_at_call 17; (with_reducible refine (HRI.out _).mono ?_); rintro e w2 ⟨rfl, hf2⟩; have HX2 := Lib.hid (hf2.keep HX.out (fun h => h)); have HR2 := Lib.hid (hf2.keep HR.out (fun h => h)); have HF2 := Lib.hid (HF.out.then0 hf2); have hc := Has.of HOK.out (by rw [HXX.out]; exact HX2.out : Bk w2 w.heap.size x.cells.toArray 30); have q0 := hc.num; have q1 := hc.kind; have q2 := hc.links; have q3 := hc.size; have q4 := hc.cps; clear hc; clear hf2) | ((with_reducible show wpList _ _ _ ({ dst := _, op := Op.build 42 #[], type := _, pos := _, after := _, guard := _ } :: _) _ _); refine PtrAsk.build_eq rfl 42 _ rfl ZT (by kernel_rfl) ?_) | ((with_reducible show wpList _ _ _ ({ dst := _, op := Op.store 42 _ _, type := _, pos := _, after := _, guard := _ } :: _) _ _); refine wpList_store_row rfl 42 _ _ rfl (w.heap.size + 1) ZT rfl rfl 42 ZT HR.out info_t rfl ZT_one ?_))
  refine fin_ct (w.heap.size + 1) 42 ZT (.int .i64 1) (by rfl) (by rfl) (by rfl) (by rfl) Try.underlying42 (by rfl) info_t (ArrKit.Bk.row HR.out _) ?_
  exact ⟨rfl, ArrKit.Fr.row HF.out _ _ (.inl (by omega))⟩

set_option maxHeartbeats 2000000 in
set_option maxRecDepth 100000 in
theorem stat_wrong (x : NV) (b : Int) (w : World) (hx : x.ok) (h : 0 ≤ b) (hr : nR x = false) : Calls Try.prog 15 #[.agg x.cells.toArray, .int .i64 b] w fun e w' => e = .returned (.tuple #[.agg ZT, .int .i64 1]) ∧ Fr0 w w' := by
  have c0 : decide (b < 0) = false := decide_eq_false (by omega)
  have hz : ∀ W, (zeroValue 42).run Try.prog W = .ok (.agg ZT) W := by intro W; kernel_rfl
  have HRI : Hid (∀ W : World, Calls Try.prog 17 #[.agg x.cells.toArray] W fun e w' => e = .returned (.bool false) ∧ Fr0 W w') := Lib.hid (fun W => by
    have := nright_calls x W hx
    rw [hr] at this
    exact this)
  have HIN : Hid ((Try.prog.info? 30).map (·.size) = some x.cells.toArray.size) := Lib.hid (by rw [info_n, List.size_toArray, NV.cells_length hx])
  have hs1 : (w.alloc (.cells x.cells.toArray 30)).heap.size = w.heap.size + 1 := by simp
  have HX : Hid (Bk ((w.alloc (.cells x.cells.toArray 30)).alloc (.cells ZT 42)) w.heap.size x.cells.toArray 30) := Lib.hid (Bk.alloc (Bk.new w _) _)
  have HR : Hid (Bk ((w.alloc (.cells x.cells.toArray 30)).alloc (.cells ZT 42)) (w.heap.size + 1) ZT 42) := Lib.hid (by have := Bk.new (w.alloc (.cells x.cells.toArray 30)) (.cells ZT 42); rwa [hs1] at this)
  have HF : Hid (Fr0 w ((w.alloc (.cells x.cells.toArray 30)).alloc (.cells ZT 42))) := Lib.hid (Fr.alloc (Fr.alloc (Fr.refl _ _) _) _)
  have hc := Has.of hx HX.out
  have q0 := hc.num
  have q1 := hc.kind
  have q2 := hc.links
  have q3 := hc.size
  have q4 := hc.cps
  have HOK := Lib.hid hx
  have HBT := Lib.hid (built_t x b)
  have HTO := Lib.hid (TS_one x b)
  have HTI : Hid ((Try.prog.info? 42).map (·.size) = some (TS x b).size) := Lib.hid info_t
  have HTZ : Hid (ZT.size = (TS x b).size) := Lib.hid rfl
  clear hs1 hx hc
  generalize TS x b = T at *
  generalize hX : x.cells.toArray = X at *
  have HXX := Lib.hid hX
  clear hX
  go_enter Try.func15, Try.ntmps15
  go_wp2_with (first | ((with_reducible show wpList _ _ _ ({ dst := _, op := Op.load 30 _, type := _, pos := _, after := _, guard := _ } :: _) _ _); refine wpList_load_row_g (by rfl) 30 _ rfl w.heap.size rfl 30 X (0, 0) _ HX.out Try.underlying30 rfl HIN.out ?_) | (go_at_call 17; (with_reducible refine (HRI.out _).mono ?_); rintro e w2 ⟨rfl, hf2⟩; have HX2 := Lib.hid (hf2.keep HX.out (fun h => h)); have HR2 := Lib.hid (hf2.keep HR.out (fun h => h)); have HF2 := Lib.hid (HF.out.then0 hf2); have hc := Has.of HOK.out (by rw [HXX.out]; exact HX2.out : Bk w2 w.heap.size x.cells.toArray 30); have q0 := hc.num; have q1 := hc.kind; have q2 := hc.links; have q3 := hc.size; have q4 := hc.cps; clear hc; clear hf2) | ((with_reducible show wpList _ _ _ ({ dst := _, op := Op.build 42 #[], type := _, pos := _, after := _, guard := _ } :: _) _ _); refine PtrAsk.build_eq rfl 42 _ rfl ZT (by kernel_rfl) ?_) | ((with_reducible show wpList _ _ _ ({ dst := _, op := Op.store 42 _ _, type := _, pos := _, after := _, guard := _ } :: _) _ _); refine wpList_store_row rfl 42 _ _ rfl (w.heap.size + 1) ZT rfl rfl 42 ZT HR2.out info_t rfl ZT_one ?_))
  refine fin_ct (w.heap.size + 1) 42 ZT (.int .i64 1) (by rfl) (by rfl) (by rfl) (by rfl) Try.underlying42 (by rfl) info_t (ArrKit.Bk.row HR2.out _) ?_
  exact ⟨rfl, ArrKit.Fr.row HF2.out _ _ (.inl (by omega))⟩

set_option maxHeartbeats 2000000 in
set_option maxRecDepth 100000 in
theorem stat_right (x : NV) (b : Int) (w : World) (hx : x.ok) (h : 0 ≤ b) (hr : nR x = true) : Calls Try.prog 15 #[.agg x.cells.toArray, .int .i64 b] w fun e w' => e = .returned (.tuple #[.agg (TS x b), .int .i64 0]) ∧ Fr0 w w' := by
  have c0 : decide (b < 0) = false := decide_eq_false (by omega)
  have hz : ∀ W, (zeroValue 42).run Try.prog W = .ok (.agg ZT) W := by intro W; kernel_rfl
  have HRI : Hid (∀ W : World, Calls Try.prog 17 #[.agg x.cells.toArray] W fun e w' => e = .returned (.bool true) ∧ Fr0 W w') := Lib.hid (fun W => by
    have := nright_calls x W hx
    rw [hr] at this
    exact this)
  have HIN : Hid ((Try.prog.info? 30).map (·.size) = some x.cells.toArray.size) := Lib.hid (by rw [info_n, List.size_toArray, NV.cells_length hx])
  have hs1 : (w.alloc (.cells x.cells.toArray 30)).heap.size = w.heap.size + 1 := by simp
  have HX : Hid (Bk ((w.alloc (.cells x.cells.toArray 30)).alloc (.cells ZT 42)) w.heap.size x.cells.toArray 30) := Lib.hid (Bk.alloc (Bk.new w _) _)
  have HR : Hid (Bk ((w.alloc (.cells x.cells.toArray 30)).alloc (.cells ZT 42)) (w.heap.size + 1) ZT 42) := Lib.hid (by have := Bk.new (w.alloc (.cells x.cells.toArray 30)) (.cells ZT 42); rwa [hs1] at this)
  have HF : Hid (Fr0 w ((w.alloc (.cells x.cells.toArray 30)).alloc (.cells ZT 42))) := Lib.hid (Fr.alloc (Fr.alloc (Fr.refl _ _) _) _)
  have hc := Has.of hx HX.out
  have q0 := hc.num
  have q1 := hc.kind
  have q2 := hc.links
  have q3 := hc.size
  have q4 := hc.cps
  have HOK := Lib.hid hx
  have HBT := Lib.hid (built_t x b)
  have HTO := Lib.hid (TS_one x b)
  have HTI : Hid ((Try.prog.info? 42).map (·.size) = some (TS x b).size) := Lib.hid info_t
  have HTZ : Hid (ZT.size = (TS x b).size) := Lib.hid rfl
  clear hs1 hx hc
  generalize TS x b = T at *
  generalize hX : x.cells.toArray = X at *
  have HXX := Lib.hid hX
  clear hX
  go_enter Try.func15, Try.ntmps15
  go_wp2_with (first | ((with_reducible show wpList _ _ _ ({ dst := _, op := Op.load 30 _, type := _, pos := _, after := _, guard := _ } :: _) _ _); refine wpList_load_row_g (by rfl) 30 _ rfl w.heap.size rfl 30 X (0, 0) _ HX.out Try.underlying30 rfl HIN.out ?_) | (go_at_call 17; (with_reducible refine (HRI.out _).mono ?_); rintro e w2 ⟨rfl, hf2⟩; have HX2 := Lib.hid (hf2.keep HX.out (fun h => h)); have HR2 := Lib.hid (hf2.keep HR.out (fun h => h)); have HF2 := Lib.hid (HF.out.then0 hf2); have hc := Has.of HOK.out (by rw [HXX.out]; exact HX2.out : Bk w2 w.heap.size x.cells.toArray 30); have q0 := hc.num; have q1 := hc.kind; have q2 := hc.links; have q3 := hc.size; have q4 := hc.cps; clear hc; clear hf2) | ((with_reducible show wpList _ _ _ ({ dst := _, op := Op.build 42 _, type := _, pos := _, after := _, guard := _ } :: _) _ _); refine PtrROf.build_ev rfl 42 _ rfl [(0, .int .i64 x.num), (1, .int .i64 x.kind), (2, .int .i64 x.cps), (3, .int .i64 x.links), (4, .int .i64 x.size), (5, .int .i64 b)] (by simp [Act.eval, Act.put]) T HBT.out ?_) | ((with_reducible show wpList _ _ _ ({ dst := _, op := Op.store 42 _ _, type := _, pos := _, after := _, guard := _ } :: _) _ _); refine wpList_store_row rfl 42 _ _ rfl (w.heap.size + 1) T rfl rfl 42 ZT HR2.out HTI.out HTZ.out HTO.out ?_))
  refine fin_ct (w.heap.size + 1) 42 T (.int .i64 0) (by rfl) (by rfl) (by rfl) (by rfl) Try.underlying42 (by rfl) HTI.out (ArrKit.Bk.row HR2.out _) ?_
  exact ⟨rfl, ArrKit.Fr.row HF2.out _ _ (.inl (by omega))⟩

set_option maxHeartbeats 2000000 in
set_option maxRecDepth 100000 in
theorem rstat_wrong (x : NV) (b : Int) (w : World) (hx : x.ok) (hr : nR x = false) : Calls Try.prog 16 #[.agg x.cells.toArray, .int .i64 b] w fun e w' => e = .returned (.tuple #[.agg ZT, .int .i64 1]) ∧ Fr0 w w' := by
  have hz : ∀ W, (zeroValue 42).run Try.prog W = .ok (.agg ZT) W := by intro W; kernel_rfl
  have HRI : Hid (∀ W : World, Calls Try.prog 13 #[.agg x.cells.toArray] W fun e w' => e = .returned (.bool false) ∧ Fr0 W w') := Lib.hid (fun W => by
    have := nrright_calls x W hx
    rw [hr] at this
    exact this)
  have HIN : Hid ((Try.prog.info? 30).map (·.size) = some x.cells.toArray.size) := Lib.hid (by rw [info_n, List.size_toArray, NV.cells_length hx])
  have hs1 : (w.alloc (.cells x.cells.toArray 30)).heap.size = w.heap.size + 1 := by simp
  have HX : Hid (Bk ((w.alloc (.cells x.cells.toArray 30)).alloc (.cells ZT 42)) w.heap.size x.cells.toArray 30) := Lib.hid (Bk.alloc (Bk.new w _) _)
  have HR : Hid (Bk ((w.alloc (.cells x.cells.toArray 30)).alloc (.cells ZT 42)) (w.heap.size + 1) ZT 42) := Lib.hid (by have := Bk.new (w.alloc (.cells x.cells.toArray 30)) (.cells ZT 42); rwa [hs1] at this)
  have HF : Hid (Fr0 w ((w.alloc (.cells x.cells.toArray 30)).alloc (.cells ZT 42))) := Lib.hid (Fr.alloc (Fr.alloc (Fr.refl _ _) _) _)
  have hc := Has.of hx HX.out
  have q0 := hc.num
  have q1 := hc.kind
  have q2 := hc.links
  have q3 := hc.size
  have q4 := hc.cps
  have HOK := Lib.hid hx
  have HBT := Lib.hid (built_t x b)
  have HTO := Lib.hid (TS_one x b)
  have HTI : Hid ((Try.prog.info? 42).map (·.size) = some (TS x b).size) := Lib.hid info_t
  have HTZ : Hid (ZT.size = (TS x b).size) := Lib.hid rfl
  clear hs1 hx hc
  generalize TS x b = T at *
  generalize hX : x.cells.toArray = X at *
  have HXX := Lib.hid hX
  clear hX
  go_enter Try.func16, Try.ntmps16
  go_wp2_with (first | ((with_reducible show wpList _ _ _ ({ dst := _, op := Op.load 30 _, type := _, pos := _, after := _, guard := _ } :: _) _ _); refine wpList_load_row_g (by rfl) 30 _ rfl w.heap.size rfl 30 X (0, 0) _ HX.out Try.underlying30 rfl HIN.out ?_) | (go_at_call 13; (with_reducible refine (HRI.out _).mono ?_); rintro e w2 ⟨rfl, hf2⟩; have HX2 := Lib.hid (hf2.keep HX.out (fun h => h)); have HR2 := Lib.hid (hf2.keep HR.out (fun h => h)); have HF2 := Lib.hid (HF.out.then0 hf2); have hc := Has.of HOK.out (by rw [HXX.out]; exact HX2.out : Bk w2 w.heap.size x.cells.toArray 30); have q0 := hc.num; have q1 := hc.kind; have q2 := hc.links; have q3 := hc.size; have q4 := hc.cps; clear hc; clear hf2) | ((with_reducible show wpList _ _ _ ({ dst := _, op := Op.build 42 #[], type := _, pos := _, after := _, guard := _ } :: _) _ _); refine PtrAsk.build_eq rfl 42 _ rfl ZT (by kernel_rfl) ?_) | ((with_reducible show wpList _ _ _ ({ dst := _, op := Op.store 42 _ _, type := _, pos := _, after := _, guard := _ } :: _) _ _); refine wpList_store_row rfl 42 _ _ rfl (w.heap.size + 1) ZT rfl rfl 42 ZT HR2.out info_t rfl ZT_one ?_))
  refine fin_ct (w.heap.size + 1) 42 ZT (.int .i64 1) (by rfl) (by rfl) (by rfl) (by rfl) Try.underlying42 (by rfl) info_t (ArrKit.Bk.row HR2.out _) ?_
  exact ⟨rfl, ArrKit.Fr.row HF2.out _ _ (.inl (by omega))⟩

set_option maxHeartbeats 2000000 in
set_option maxRecDepth 100000 in
theorem rstat_neg (x : NV) (b : Int) (w : World) (hx : x.ok) (h : b < 0) (hr : nR x = true) : Calls Try.prog 16 #[.agg x.cells.toArray, .int .i64 b] w fun e w' => e = .returned (.tuple #[.agg ZT, .int .i64 1]) ∧ Fr0 w w' := by
  have c0 : decide (b < 0) = true := decide_eq_true (by omega)
  have hz : ∀ W, (zeroValue 42).run Try.prog W = .ok (.agg ZT) W := by intro W; kernel_rfl
  have HRI : Hid (∀ W : World, Calls Try.prog 13 #[.agg x.cells.toArray] W fun e w' => e = .returned (.bool true) ∧ Fr0 W w') := Lib.hid (fun W => by
    have := nrright_calls x W hx
    rw [hr] at this
    exact this)
  have HIN : Hid ((Try.prog.info? 30).map (·.size) = some x.cells.toArray.size) := Lib.hid (by rw [info_n, List.size_toArray, NV.cells_length hx])
  have hs1 : (w.alloc (.cells x.cells.toArray 30)).heap.size = w.heap.size + 1 := by simp
  have HX : Hid (Bk ((w.alloc (.cells x.cells.toArray 30)).alloc (.cells ZT 42)) w.heap.size x.cells.toArray 30) := Lib.hid (Bk.alloc (Bk.new w _) _)
  have HR : Hid (Bk ((w.alloc (.cells x.cells.toArray 30)).alloc (.cells ZT 42)) (w.heap.size + 1) ZT 42) := Lib.hid (by have := Bk.new (w.alloc (.cells x.cells.toArray 30)) (.cells ZT 42); rwa [hs1] at this)
  have HF : Hid (Fr0 w ((w.alloc (.cells x.cells.toArray 30)).alloc (.cells ZT 42))) := Lib.hid (Fr.alloc (Fr.alloc (Fr.refl _ _) _) _)
  have hc := Has.of hx HX.out
  have q0 := hc.num
  have q1 := hc.kind
  have q2 := hc.links
  have q3 := hc.size
  have q4 := hc.cps
  have HOK := Lib.hid hx
  have HBT := Lib.hid (built_t x b)
  have HTO := Lib.hid (TS_one x b)
  have HTI : Hid ((Try.prog.info? 42).map (·.size) = some (TS x b).size) := Lib.hid info_t
  have HTZ : Hid (ZT.size = (TS x b).size) := Lib.hid rfl
  clear hs1 hx hc
  generalize TS x b = T at *
  generalize hX : x.cells.toArray = X at *
  have HXX := Lib.hid hX
  clear hX
  go_enter Try.func16, Try.ntmps16
  go_wp2_with (first | ((with_reducible show wpList _ _ _ ({ dst := _, op := Op.load 30 _, type := _, pos := _, after := _, guard := _ } :: _) _ _); refine wpList_load_row_g (by rfl) 30 _ rfl w.heap.size rfl 30 X (0, 0) _ HX.out Try.underlying30 rfl HIN.out ?_) | (go_at_call 13; (with_reducible refine (HRI.out _).mono ?_); rintro e w2 ⟨rfl, hf2⟩; have HX2 := Lib.hid (hf2.keep HX.out (fun h => h)); have HR2 := Lib.hid (hf2.keep HR.out (fun h => h)); have HF2 := Lib.hid (HF.out.then0 hf2); have hc := Has.of HOK.out (by rw [HXX.out]; exact HX2.out : Bk w2 w.heap.size x.cells.toArray 30); have q0 := hc.num; have q1 := hc.kind; have q2 := hc.links; have q3 := hc.size; have q4 := hc.cps; clear hc; clear hf2) | ((with_reducible show wpList _ _ _ ({ dst := _, op := Op.build 42 #[], type := _, pos := _, after := _, guard := _ } :: _) _ _); refine PtrAsk.build_eq rfl 42 _ rfl ZT (by kernel_rfl) ?_) | ((with_reducible show wpList _ _ _ ({ dst := _, op := Op.store 42 _ _, type := _, pos := _, after := _, guard := _ } :: _) _ _); refine wpList_store_row rfl 42 _ _ rfl (w.heap.size + 1) ZT rfl rfl 42 ZT HR2.out info_t rfl ZT_one ?_))
  refine fin_ct (w.heap.size + 1) 42 ZT (.int .i64 1) (by rfl) (by rfl) (by rfl) (by rfl) Try.underlying42 (by rfl) info_t (ArrKit.Bk.row HR2.out _) ?_
  exact ⟨rfl, ArrKit.Fr.row HF2.out _ _ (.inl (by omega))⟩

set_option maxHeartbeats 2000000 in
set_option maxRecDepth 100000 in
theorem rstat_right (x : NV) (b : Int) (w : World) (hx : x.ok) (h : 0 ≤ b) (hr : nR x = true) : Calls Try.prog 16 #[.agg x.cells.toArray, .int .i64 b] w fun e w' => e = .returned (.tuple #[.agg (TS x b), .int .i64 0]) ∧ Fr0 w w' := by
  have c0 : decide (b < 0) = false := decide_eq_false (by omega)
  have hz : ∀ W, (zeroValue 42).run Try.prog W = .ok (.agg ZT) W := by intro W; kernel_rfl
  have HRI : Hid (∀ W : World, Calls Try.prog 13 #[.agg x.cells.toArray] W fun e w' => e = .returned (.bool true) ∧ Fr0 W w') := Lib.hid (fun W => by
    have := nrright_calls x W hx
    rw [hr] at this
    exact this)
  have HIN : Hid ((Try.prog.info? 30).map (·.size) = some x.cells.toArray.size) := Lib.hid (by rw [info_n, List.size_toArray, NV.cells_length hx])
  have hs1 : (w.alloc (.cells x.cells.toArray 30)).heap.size = w.heap.size + 1 := by simp
  have HX : Hid (Bk ((w.alloc (.cells x.cells.toArray 30)).alloc (.cells ZT 42)) w.heap.size x.cells.toArray 30) := Lib.hid (Bk.alloc (Bk.new w _) _)
  have HR : Hid (Bk ((w.alloc (.cells x.cells.toArray 30)).alloc (.cells ZT 42)) (w.heap.size + 1) ZT 42) := Lib.hid (by have := Bk.new (w.alloc (.cells x.cells.toArray 30)) (.cells ZT 42); rwa [hs1] at this)
  have HF : Hid (Fr0 w ((w.alloc (.cells x.cells.toArray 30)).alloc (.cells ZT 42))) := Lib.hid (Fr.alloc (Fr.alloc (Fr.refl _ _) _) _)
  have hc := Has.of hx HX.out
  have q0 := hc.num
  have q1 := hc.kind
  have q2 := hc.links
  have q3 := hc.size
  have q4 := hc.cps
  have HOK := Lib.hid hx
  have HBT := Lib.hid (built_t x b)
  have HTO := Lib.hid (TS_one x b)
  have HTI : Hid ((Try.prog.info? 42).map (·.size) = some (TS x b).size) := Lib.hid info_t
  have HTZ : Hid (ZT.size = (TS x b).size) := Lib.hid rfl
  clear hs1 hx hc
  generalize TS x b = T at *
  generalize hX : x.cells.toArray = X at *
  have HXX := Lib.hid hX
  clear hX
  go_enter Try.func16, Try.ntmps16
  go_wp2_with (first | ((with_reducible show wpList _ _ _ ({ dst := _, op := Op.load 30 _, type := _, pos := _, after := _, guard := _ } :: _) _ _); refine wpList_load_row_g (by rfl) 30 _ rfl w.heap.size rfl 30 X (0, 0) _ HX.out Try.underlying30 rfl HIN.out ?_) | (go_at_call 13; (with_reducible refine (HRI.out _).mono ?_); rintro e w2 ⟨rfl, hf2⟩; have HX2 := Lib.hid (hf2.keep HX.out (fun h => h)); have HR2 := Lib.hid (hf2.keep HR.out (fun h => h)); have HF2 := Lib.hid (HF.out.then0 hf2); have hc := Has.of HOK.out (by rw [HXX.out]; exact HX2.out : Bk w2 w.heap.size x.cells.toArray 30); have q0 := hc.num; have q1 := hc.kind; have q2 := hc.links; have q3 := hc.size; have q4 := hc.cps; clear hc; clear hf2) | ((with_reducible show wpList _ _ _ ({ dst := _, op := Op.build 42 _, type := _, pos := _, after := _, guard := _ } :: _) _ _); refine PtrROf.build_ev rfl 42 _ rfl [(0, .int .i64 x.num), (1, .int .i64 x.kind), (2, .int .i64 x.cps), (3, .int .i64 x.links), (4, .int .i64 x.size), (5, .int .i64 b)] (by simp [Act.eval, Act.put]) T HBT.out ?_) | ((with_reducible show wpList _ _ _ ({ dst := _, op := Op.store 42 _ _, type := _, pos := _, after := _, guard := _ } :: _) _ _); refine wpList_store_row rfl 42 _ _ rfl (w.heap.size + 1) T rfl rfl 42 ZT HR2.out HTI.out HTZ.out HTO.out ?_))
  refine fin_ct (w.heap.size + 1) 42 T (.int .i64 0) (by rfl) (by rfl) (by rfl) (by rfl) Try.underlying42 (by rfl) HTI.out (ArrKit.Bk.row HR2.out _) ?_
  exact ⟨rfl, ArrKit.Fr.row HF2.out _ _ (.inl (by omega))⟩

def stX (x : NV) (b : Int) : Array Value := if 0 ≤ b ∧ nR x = true then TS x b else ZT
def stE (x : NV) (b : Int) : Int := if 0 ≤ b ∧ nR x = true then 0 else 1
/-- STAT: what inode.Stat answers. -/
theorem stat_calls (x : NV) (b : Int) (w : World) (hx : x.ok) : Calls Try.prog 15 #[.agg x.cells.toArray, .int .i64 b] w fun e w' => e = .returned (.tuple #[.agg (stX x b), .int .i64 (stE x b)]) ∧ Fr0 w w' := by
  unfold stX stE
  by_cases h : 0 ≤ b
  · cases hr : nR x with
    | false => rw [if_neg (fun e => by simp at e), if_neg (fun e => by simp at e)]; exact stat_wrong x b w hx h hr
    | true => rw [if_pos ⟨h, rfl⟩, if_pos ⟨h, rfl⟩]; exact stat_right x b w hx h hr
  · rw [if_neg (fun e => h e.1), if_neg (fun e => h e.1)]; exact stat_neg x b w hx (by omega)
theorem rstat_calls (x : NV) (b : Int) (w : World) (hx : x.ok) : Calls Try.prog 16 #[.agg x.cells.toArray, .int .i64 b] w fun e w' => e = .returned (.tuple #[.agg (stX x b), .int .i64 (stE x b)]) ∧ Fr0 w w' := by
  unfold stX stE
  cases hr : nR x with
  | false => rw [if_neg (fun e => by simp at e), if_neg (fun e => by simp at e)]; exact rstat_wrong x b w hx hr
  | true =>
    by_cases h : 0 ≤ b
    · rw [if_pos ⟨h, rfl⟩, if_pos ⟨h, rfl⟩]; exact rstat_right x b w hx h hr
    · rw [if_neg (fun e => h e.1), if_neg (fun e => h e.1)]; exact rstat_neg x b w hx (by omega) hr

end Go.Proofs.Ytfjkbabeceaelaa.InoStat
