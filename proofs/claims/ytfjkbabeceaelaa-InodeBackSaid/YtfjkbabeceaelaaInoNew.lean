/- A new node: the walks of inode.New and lazaretref13.New. -/
import Derived.Test.YtfjkbabeceaelaaInoRRight
import Derived.Test.YtfjkbabeceaelaaPtrROf
set_option linter.unusedVariables false
set_option linter.unusedSimpArgs false
namespace Go.Proofs.Ytfjkbabeceaelaa.InoNew
open Go Go.RowKit Go.Proofs.Ytfjkbabeceaelaa.K Go.Proofs.Ytfjkbabeceaelaa.EqKit Go.Proofs.Ytfjkbabeceaelaa.PtrKit Go.Proofs.Ytfjkbabeceaelaa.ArrKit Go.Proofs.Ytfjkbabeceaelaa.HeldKit Go.Proofs.Ytfjkbabeceaelaa.PtrAsk Go.Proofs.Ytfjkbabeceaelaa.PtrRRight Go.Proofs.Ytfjkbabeceaelaa.ShaStep Go.Proofs.Ytfjkbabeceaelaa.ShaSum Go.Proofs.Ytfjkbabeceaelaa.PtrOf Go.Proofs.Ytfjkbabeceaelaa.PtrROf Go.Proofs.Ytfjkbabeceaelaa.WordPut Go.Proofs.Ytfjkbabeceaelaa.WordTake Go.Proofs.Ytfjkbabeceaelaa.PtrPut Go.Proofs.Ytfjkbabeceaelaa.InoKit Go.Proofs.Ytfjkbabeceaelaa.InoRRight

def zeroN : NV := ⟨0, 0, 0, ⟨0, 0, Z⟩, 0, 0⟩
def ZN : Array Value := zeroN.cells.toArray
theorem ZN_size : ZN.size = 39 := by kernel_rfl
theorem ZN_one : ZN.all (·.oneCell') = true := by kernel_rfl
theorem zeroN_ok : zeroN.ok := ⟨⟨Z_len, by decide, by decide⟩, by decide, by decide, by decide, by decide, by decide⟩
theorem cells_one {x : NV} : x.cells.toArray.all (·.oneCell') = true := by simp [NV.cells, V3.pc, PC, B, Value.oneCell']
def newN (num kind : Int) : NV := ⟨num, kind, 0, hol, 0, if kind = 1 then 1 else 2⟩
theorem newN_ok {num kind : Int} (h1 : (Lit.int .i64 num).wf = true) (h2 : (Lit.int .i64 kind).wf = true) : (newN num kind).ok := ⟨hol_ok, h1, h2, (by decide : (Lit.int .i64 0).wf = true), (by decide : (Lit.int .i64 0).wf = true), by show (Lit.int .i64 (if kind = 1 then 1 else 2)).wf = true; split <;> decide⟩
def newX (num kind : Int) : Array Value := if nR (newN num kind) then (newN num kind).cells.toArray else ZN
def newE (num kind : Int) : Int := if nR (newN num kind) then 0 else 1
def hole36 (c : Int) : List Value := hol.pc ++ [.int .i64 0, .int .i64 c]
theorem built_stem (c : Int) : Try.prog.built 28 [(0, .agg HOLE), (2, .int .i64 c)] = some (hole36 c).toArray := by
  show _ = _
  kernel_rfl
theorem built_new (num kind c : Int) : Try.prog.built 30 [(0, .int .i64 num), (1, .int .i64 kind), (3, .agg (hole36 c).toArray)] = some (NV.cells ⟨num, kind, 0, hol, 0, c⟩).toArray := by
  show _ = _
  kernel_rfl

set_option maxHeartbeats 2000000 in
set_option maxRecDepth 100000 in
theorem new_1_false (num : Int) (w : World) (h1 : (Lit.int .i64 num).wf = true) (hr : nR (⟨num, 1, 0, hol, 0, 1⟩ : NV) = false) : Calls Try.prog 10 #[.int .i64 num, .int .i64 1] w fun e w' => e = .returned (.tuple #[.agg ZN, .int .i64 1]) ∧ Fr0 w w' := by
  have hok : (⟨num, 1, 0, hol, 0, 1⟩ : NV).ok := ⟨hol_ok, h1, by show (Lit.int .i64 1).wf = true; decide, by show (Lit.int .i64 0).wf = true; decide, by show (Lit.int .i64 0).wf = true; decide, by show (Lit.int .i64 1).wf = true; decide⟩
  have hz : ∀ W, (zeroValue 30).run Try.prog W = .ok (.agg ZN) W := by intro W; kernel_rfl
  have HRI : Hid (∀ W : World, Calls Try.prog 17 #[.agg (⟨num, 1, 0, hol, 0, 1⟩ : NV).cells.toArray] W fun e w' => e = .returned (.bool false) ∧ Fr0 W w') := Lib.hid (fun W => by
    have := nright_calls (⟨num, 1, 0, hol, 0, 1⟩ : NV) W hok
    rw [hr] at this
    exact this)
  have HIN : Hid ((Try.prog.info? 30).map (·.size) = some (⟨num, 1, 0, hol, 0, 1⟩ : NV).cells.toArray.size) := Lib.hid (by rw [info_n, List.size_toArray, NV.cells_length hok])
  have HZS : Hid (ZN.size = (⟨num, 1, 0, hol, 0, 1⟩ : NV).cells.toArray.size) := Lib.hid (ZN_size.trans (by rw [List.size_toArray, NV.cells_length hok]))
  have HB0 : Hid (Try.prog.built 28 [(0, .agg HOLE), (2, .int .i64 1)] = some (hole36 1).toArray) := Lib.hid (built_stem 1)
  have HB1 : Hid (Try.prog.built 30 [(0, .int .i64 num), (1, .int .i64 1), (3, .agg (hole36 1).toArray)] = some (⟨num, 1, 0, hol, 0, 1⟩ : NV).cells.toArray) := Lib.hid (built_new num 1 1)
  have HR0 : Hid (Bk (w.alloc (.cells ZN 30)) w.heap.size ZN 30) := Lib.hid (Bk.new w _)
  have HF0 : Hid (Fr0 w (w.alloc (.cells ZN 30))) := Lib.hid (Fr.alloc (Fr.refl _ _) _)
  have HCO : Hid ((⟨num, 1, 0, hol, 0, 1⟩ : NV).cells.toArray.all (·.oneCell') = true) := Lib.hid cells_one
  have HCB : Hid ((⟨num, 1, 0, hol, 0, 1⟩ : NV).cells.toArray.all (·.oneCell') = true) := Lib.hid cells_one
  have HIB : Hid ((Try.prog.info? 30).map (·.size) = some (⟨num, 1, 0, hol, 0, 1⟩ : NV).cells.toArray.size) := Lib.hid (by rw [info_n]; kernel_rfl)
  have HZB : Hid (ZN.size = (⟨num, 1, 0, hol, 0, 1⟩ : NV).cells.toArray.size) := Lib.hid (by kernel_rfl)
  have HC37 : Hid ((⟨num, 1, 0, hol, 0, 1⟩ : NV).cells.toArray[38]? = some (.int .i64 1)) := Lib.hid (by kernel_rfl)
  have HSET : Hid ((⟨num, 1, 0, hol, 0, 1⟩ : NV).cells.toArray.setIfInBounds 38 (.int .i64 1) = (⟨num, 1, 0, hol, 0, 1⟩ : NV).cells.toArray) := Lib.hid (by kernel_rfl)
  clear h1 hr hok 
  generalize (⟨num, 1, 0, hol, 0, 1⟩ : NV).cells.toArray = X at *
  generalize (hole36 1).toArray = X36 at *
  go_enter Try.func10, Try.ntmps10
  go_wp2_with (first | ((with_reducible show wpList _ _ _ ({ dst := _, op := Op.build 30 #[], type := _, pos := _, after := _, guard := _ } :: _) _ _); refine PtrAsk.build_eq rfl 30 _ rfl ZN (by kernel_rfl) ?_) | (go_at_call 23; (with_reducible refine (copies_1 1 _ rfl).mono ?_); rintro e w1 ⟨rfl, rfl⟩) | (go_at_call 24; (with_reducible refine (hole_calls _).mono ?_); rintro e w2 ⟨rfl, hf2⟩; have HF2 := Lib.hid (HF0.out.then0 hf2); have HR2 := Lib.hid (hf2.keep HR0.out (fun h => h)); have HN2 : Hid (Bk (w2.alloc (.cells ZN 30)) w2.heap.size ZN 30) := Lib.hid (Bk.new _ _); clear hf2) | ((with_reducible show wpList _ _ _ ({ dst := _, op := Op.build 28 _, type := _, pos := _, after := _, guard := _ } :: _) _ _); refine PtrROf.build_ev rfl 28 _ rfl [(0, .agg HOLE), (2, .int .i64 1)] (by simp [Act.eval, Act.put]) X36 HB0.out ?_) | ((with_reducible show wpList _ _ _ ({ dst := _, op := Op.build 30 _, type := _, pos := _, after := _, guard := _ } :: _) _ _); refine PtrROf.build_ev rfl 30 _ rfl [(0, .int .i64 num), (1, .int .i64 1), (3, .agg X36)] (by simp [Act.eval, Act.put]) X HB1.out ?_) | ((with_reducible show wpList _ _ _ ({ dst := _, op := Op.store 30 _ _, type := _, pos := _, after := _, guard := _ } :: _) _ _); refine wpList_store_row rfl 30 _ _ rfl w2.heap.size X rfl rfl 30 ZN HN2.out HIN.out HZS.out HCO.out ?_; change wpList _ _ _ _ _ ((w2.alloc (.cells ZN 30)).setRow w2.heap.size X); have HJ3 : Hid (Bk ((w2.alloc (.cells ZN 30)).setRow w2.heap.size X) w2.heap.size X 30) := Lib.hid (ArrKit.Bk.row HN2.out _); have hfx : Fr0 w2 ((w2.alloc (.cells ZN 30)).setRow w2.heap.size X) := ArrKit.Fr.row (Fr.alloc (Fr.refl _ _) _) _ _ (.inl (Nat.le_refl _)); have HR3 := Lib.hid (hfx.keep HR2.out (fun h => h)); have HF3 := Lib.hid (HF2.out.then0 hfx); have HJL : Hid (w.heap.size < w2.heap.size) := Lib.hid (Bk.lt HR2.out); clear hfx; generalize ((w2.alloc (.cells ZN 30)).setRow w2.heap.size X) = w3 at *; generalize w2.heap.size = J at *; have HJ4 := HJ3; have HR4 := HR3; have HF4 := HF3) | ((with_reducible show wpList _ _ _ ({ dst := _, op := Op.load 30 _, type := _, pos := _, after := _, guard := _ } :: _) _ _); refine wpList_load_row rfl 30 _ rfl J rfl 30 X (0, 0) _ HJ4.out Try.underlying30 rfl HIN.out ?_) | (go_at_call 17; (with_reducible refine (HRI.out _).mono ?_); rintro e w5 ⟨rfl, hf5⟩; have HF5 := Lib.hid (HF4.out.then0 hf5); have HR5 := Lib.hid (hf5.keep HR4.out (fun h => h)); have HJ5 := Lib.hid (hf5.keep HJ4.out (fun h => h)); clear hf5) | ((with_reducible show wpList _ _ _ ({ dst := _, op := Op.store 30 _ _, type := _, pos := _, after := _, guard := _ } :: _) _ _); refine wpList_store_row rfl 30 _ _ rfl w.heap.size ZN rfl rfl 30 ZN HR5.out info_n rfl ZN_one ?_))
  refine fin_ct w.heap.size 30 ZN (.int .i64 1) (by rfl) (by rfl) (by rfl) (by rfl) Try.underlying30 (by rfl) info_n (ArrKit.Bk.row HR5.out _) ?_
  exact ⟨rfl, ArrKit.Fr.row HF5.out _ _ (.inl (Nat.le_refl _))⟩

set_option maxHeartbeats 2000000 in
set_option maxRecDepth 100000 in
theorem new_1_true (num : Int) (w : World) (h1 : (Lit.int .i64 num).wf = true) (hr : nR (⟨num, 1, 0, hol, 0, 1⟩ : NV) = true) : Calls Try.prog 10 #[.int .i64 num, .int .i64 1] w fun e w' => e = .returned (.tuple #[.agg (⟨num, 1, 0, hol, 0, 1⟩ : NV).cells.toArray, .int .i64 0]) ∧ Fr0 w w' := by
  have hok : (⟨num, 1, 0, hol, 0, 1⟩ : NV).ok := ⟨hol_ok, h1, by show (Lit.int .i64 1).wf = true; decide, by show (Lit.int .i64 0).wf = true; decide, by show (Lit.int .i64 0).wf = true; decide, by show (Lit.int .i64 1).wf = true; decide⟩
  have hz : ∀ W, (zeroValue 30).run Try.prog W = .ok (.agg ZN) W := by intro W; kernel_rfl
  have HRI : Hid (∀ W : World, Calls Try.prog 17 #[.agg (⟨num, 1, 0, hol, 0, 1⟩ : NV).cells.toArray] W fun e w' => e = .returned (.bool true) ∧ Fr0 W w') := Lib.hid (fun W => by
    have := nright_calls (⟨num, 1, 0, hol, 0, 1⟩ : NV) W hok
    rw [hr] at this
    exact this)
  have HIN : Hid ((Try.prog.info? 30).map (·.size) = some (⟨num, 1, 0, hol, 0, 1⟩ : NV).cells.toArray.size) := Lib.hid (by rw [info_n, List.size_toArray, NV.cells_length hok])
  have HZS : Hid (ZN.size = (⟨num, 1, 0, hol, 0, 1⟩ : NV).cells.toArray.size) := Lib.hid (ZN_size.trans (by rw [List.size_toArray, NV.cells_length hok]))
  have HB0 : Hid (Try.prog.built 28 [(0, .agg HOLE), (2, .int .i64 1)] = some (hole36 1).toArray) := Lib.hid (built_stem 1)
  have HB1 : Hid (Try.prog.built 30 [(0, .int .i64 num), (1, .int .i64 1), (3, .agg (hole36 1).toArray)] = some (⟨num, 1, 0, hol, 0, 1⟩ : NV).cells.toArray) := Lib.hid (built_new num 1 1)
  have HR0 : Hid (Bk (w.alloc (.cells ZN 30)) w.heap.size ZN 30) := Lib.hid (Bk.new w _)
  have HF0 : Hid (Fr0 w (w.alloc (.cells ZN 30))) := Lib.hid (Fr.alloc (Fr.refl _ _) _)
  have HCO : Hid ((⟨num, 1, 0, hol, 0, 1⟩ : NV).cells.toArray.all (·.oneCell') = true) := Lib.hid cells_one
  have HCB : Hid ((⟨num, 1, 0, hol, 0, 1⟩ : NV).cells.toArray.all (·.oneCell') = true) := Lib.hid cells_one
  have HIB : Hid ((Try.prog.info? 30).map (·.size) = some (⟨num, 1, 0, hol, 0, 1⟩ : NV).cells.toArray.size) := Lib.hid (by rw [info_n]; kernel_rfl)
  have HZB : Hid (ZN.size = (⟨num, 1, 0, hol, 0, 1⟩ : NV).cells.toArray.size) := Lib.hid (by kernel_rfl)
  have HC37 : Hid ((⟨num, 1, 0, hol, 0, 1⟩ : NV).cells.toArray[38]? = some (.int .i64 1)) := Lib.hid (by kernel_rfl)
  have HSET : Hid ((⟨num, 1, 0, hol, 0, 1⟩ : NV).cells.toArray.setIfInBounds 38 (.int .i64 1) = (⟨num, 1, 0, hol, 0, 1⟩ : NV).cells.toArray) := Lib.hid (by kernel_rfl)
  clear h1 hr hok 
  generalize (⟨num, 1, 0, hol, 0, 1⟩ : NV).cells.toArray = X at *
  generalize (hole36 1).toArray = X36 at *
  go_enter Try.func10, Try.ntmps10
  go_wp2_with (first | (go_at_call 23; (with_reducible refine (copies_1 1 _ rfl).mono ?_); rintro e w1 ⟨rfl, rfl⟩) | (go_at_call 24; (with_reducible refine (hole_calls _).mono ?_); rintro e w2 ⟨rfl, hf2⟩; have HF2 := Lib.hid (HF0.out.then0 hf2); have HR2 := Lib.hid (hf2.keep HR0.out (fun h => h)); have HN2 : Hid (Bk (w2.alloc (.cells ZN 30)) w2.heap.size ZN 30) := Lib.hid (Bk.new _ _); clear hf2) | ((with_reducible show wpList _ _ _ ({ dst := _, op := Op.build 28 _, type := _, pos := _, after := _, guard := _ } :: _) _ _); refine PtrROf.build_ev rfl 28 _ rfl [(0, .agg HOLE), (2, .int .i64 1)] (by simp [Act.eval, Act.put]) X36 HB0.out ?_) | ((with_reducible show wpList _ _ _ ({ dst := _, op := Op.build 30 _, type := _, pos := _, after := _, guard := _ } :: _) _ _); refine PtrROf.build_ev rfl 30 _ rfl [(0, .int .i64 num), (1, .int .i64 1), (3, .agg X36)] (by simp [Act.eval, Act.put]) X HB1.out ?_) | ((with_reducible show wpList _ _ _ ({ dst := _, op := Op.store 30 _ _, type := _, pos := _, after := _, guard := _ } :: _) _ _); refine wpList_store_row rfl 30 _ _ rfl w2.heap.size X rfl rfl 30 ZN HN2.out HIN.out HZS.out HCO.out ?_; change wpList _ _ _ _ _ ((w2.alloc (.cells ZN 30)).setRow w2.heap.size X); have HJ3 : Hid (Bk ((w2.alloc (.cells ZN 30)).setRow w2.heap.size X) w2.heap.size X 30) := Lib.hid (ArrKit.Bk.row HN2.out _); have hfx : Fr0 w2 ((w2.alloc (.cells ZN 30)).setRow w2.heap.size X) := ArrKit.Fr.row (Fr.alloc (Fr.refl _ _) _) _ _ (.inl (Nat.le_refl _)); have HR3 := Lib.hid (hfx.keep HR2.out (fun h => h)); have HF3 := Lib.hid (HF2.out.then0 hfx); have HJL : Hid (w.heap.size < w2.heap.size) := Lib.hid (Bk.lt HR2.out); clear hfx; generalize ((w2.alloc (.cells ZN 30)).setRow w2.heap.size X) = w3 at *; generalize w2.heap.size = J at *; have HJ4 := HJ3; have HR4 := HR3; have HF4 := HF3) | ((with_reducible show wpList _ _ _ ({ dst := _, op := Op.load 30 _, type := _, pos := _, after := _, guard := _ } :: _) _ _); refine wpList_load_row rfl 30 _ rfl J rfl 30 X (0, 0) _ HJ4.out Try.underlying30 rfl HIN.out ?_) | (go_at_call 17; (with_reducible refine (HRI.out _).mono ?_); rintro e w5 ⟨rfl, hf5⟩; have HF5 := Lib.hid (HF4.out.then0 hf5); have HR5 := Lib.hid (hf5.keep HR4.out (fun h => h)); have HJ5 := Lib.hid (hf5.keep HJ4.out (fun h => h)); clear hf5) | ((with_reducible show wpList _ _ _ ({ dst := _, op := Op.load 30 _, type := _, pos := _, after := _, guard := _ } :: _) _ _); refine wpList_load_row rfl 30 _ rfl J rfl 30 X (0, 0) _ HJ5.out Try.underlying30 rfl HIN.out ?_) | ((with_reducible show wpList _ _ _ ({ dst := _, op := Op.store 30 _ _, type := _, pos := _, after := _, guard := _ } :: _) _ _); refine wpList_store_row rfl 30 _ _ rfl w.heap.size X rfl rfl 30 ZN HR5.out HIN.out HZS.out HCO.out ?_))
  refine fin_ct w.heap.size 30 X (.int .i64 0) (by rfl) (by rfl) (by rfl) (by rfl) Try.underlying30 (by rfl) HIN.out (ArrKit.Bk.row HR5.out _) ?_
  exact ⟨rfl, ArrKit.Fr.row HF5.out _ _ (.inl (Nat.le_refl _))⟩

set_option maxHeartbeats 2000000 in
set_option maxRecDepth 100000 in
theorem new_2_false (num kind : Int) (w : World) (h1 : (Lit.int .i64 num).wf = true) (h2 : (Lit.int .i64 kind).wf = true) (hk : Hid (kind ≠ 1)) (hr : nR (⟨num, kind, 0, hol, 0, 2⟩ : NV) = false) : Calls Try.prog 10 #[.int .i64 num, .int .i64 kind] w fun e w' => e = .returned (.tuple #[.agg ZN, .int .i64 1]) ∧ Fr0 w w' := by
  have hok : (⟨num, kind, 0, hol, 0, 2⟩ : NV).ok := ⟨hol_ok, h1, h2, by show (Lit.int .i64 0).wf = true; decide, by show (Lit.int .i64 0).wf = true; decide, by show (Lit.int .i64 2).wf = true; decide⟩
  have hz : ∀ W, (zeroValue 30).run Try.prog W = .ok (.agg ZN) W := by intro W; kernel_rfl
  have HRI : Hid (∀ W : World, Calls Try.prog 17 #[.agg (⟨num, kind, 0, hol, 0, 2⟩ : NV).cells.toArray] W fun e w' => e = .returned (.bool false) ∧ Fr0 W w') := Lib.hid (fun W => by
    have := nright_calls (⟨num, kind, 0, hol, 0, 2⟩ : NV) W hok
    rw [hr] at this
    exact this)
  have HIN : Hid ((Try.prog.info? 30).map (·.size) = some (⟨num, kind, 0, hol, 0, 2⟩ : NV).cells.toArray.size) := Lib.hid (by rw [info_n, List.size_toArray, NV.cells_length hok])
  have HZS : Hid (ZN.size = (⟨num, kind, 0, hol, 0, 2⟩ : NV).cells.toArray.size) := Lib.hid (ZN_size.trans (by rw [List.size_toArray, NV.cells_length hok]))
  have HB0 : Hid (Try.prog.built 28 [(0, .agg HOLE), (2, .int .i64 2)] = some (hole36 2).toArray) := Lib.hid (built_stem 2)
  have HB1 : Hid (Try.prog.built 30 [(0, .int .i64 num), (1, .int .i64 kind), (3, .agg (hole36 2).toArray)] = some (⟨num, kind, 0, hol, 0, 2⟩ : NV).cells.toArray) := Lib.hid (built_new num kind 2)
  have HR0 : Hid (Bk (w.alloc (.cells ZN 30)) w.heap.size ZN 30) := Lib.hid (Bk.new w _)
  have HF0 : Hid (Fr0 w (w.alloc (.cells ZN 30))) := Lib.hid (Fr.alloc (Fr.refl _ _) _)
  have HCO : Hid ((⟨num, kind, 0, hol, 0, 2⟩ : NV).cells.toArray.all (·.oneCell') = true) := Lib.hid cells_one
  have HCB : Hid ((⟨num, kind, 0, hol, 0, 2⟩ : NV).cells.toArray.all (·.oneCell') = true) := Lib.hid cells_one
  have HIB : Hid ((Try.prog.info? 30).map (·.size) = some (⟨num, kind, 0, hol, 0, 2⟩ : NV).cells.toArray.size) := Lib.hid (by rw [info_n]; kernel_rfl)
  have HZB : Hid (ZN.size = (⟨num, kind, 0, hol, 0, 2⟩ : NV).cells.toArray.size) := Lib.hid (by kernel_rfl)
  have HC37 : Hid ((⟨num, kind, 0, hol, 0, 2⟩ : NV).cells.toArray[38]? = some (.int .i64 2)) := Lib.hid (by kernel_rfl)
  have HSET : Hid ((⟨num, kind, 0, hol, 0, 2⟩ : NV).cells.toArray.setIfInBounds 38 (.int .i64 2) = (⟨num, kind, 0, hol, 0, 2⟩ : NV).cells.toArray) := Lib.hid (by kernel_rfl)
  clear h1 hr hok h2
  generalize (⟨num, kind, 0, hol, 0, 2⟩ : NV).cells.toArray = X at *
  generalize (hole36 2).toArray = X36 at *
  go_enter Try.func10, Try.ntmps10
  go_wp2_with (first | ((with_reducible show wpList _ _ _ ({ dst := _, op := Op.build 30 #[], type := _, pos := _, after := _, guard := _ } :: _) _ _); refine PtrAsk.build_eq rfl 30 _ rfl ZN (by kernel_rfl) ?_) | (go_at_call 23; (with_reducible refine (copies_2 kind _ hk.out).mono ?_); rintro e w1 ⟨rfl, rfl⟩) | (go_at_call 24; (with_reducible refine (hole_calls _).mono ?_); rintro e w2 ⟨rfl, hf2⟩; have HF2 := Lib.hid (HF0.out.then0 hf2); have HR2 := Lib.hid (hf2.keep HR0.out (fun h => h)); have HN2 : Hid (Bk (w2.alloc (.cells ZN 30)) w2.heap.size ZN 30) := Lib.hid (Bk.new _ _); clear hf2) | ((with_reducible show wpList _ _ _ ({ dst := _, op := Op.build 28 _, type := _, pos := _, after := _, guard := _ } :: _) _ _); refine PtrROf.build_ev rfl 28 _ rfl [(0, .agg HOLE), (2, .int .i64 2)] (by simp [Act.eval, Act.put]) X36 HB0.out ?_) | ((with_reducible show wpList _ _ _ ({ dst := _, op := Op.build 30 _, type := _, pos := _, after := _, guard := _ } :: _) _ _); refine PtrROf.build_ev rfl 30 _ rfl [(0, .int .i64 num), (1, .int .i64 kind), (3, .agg X36)] (by simp [Act.eval, Act.put]) X HB1.out ?_) | ((with_reducible show wpList _ _ _ ({ dst := _, op := Op.store 30 _ _, type := _, pos := _, after := _, guard := _ } :: _) _ _); refine wpList_store_row rfl 30 _ _ rfl w2.heap.size X rfl rfl 30 ZN HN2.out HIN.out HZS.out HCO.out ?_; change wpList _ _ _ _ _ ((w2.alloc (.cells ZN 30)).setRow w2.heap.size X); have HJ3 : Hid (Bk ((w2.alloc (.cells ZN 30)).setRow w2.heap.size X) w2.heap.size X 30) := Lib.hid (ArrKit.Bk.row HN2.out _); have hfx : Fr0 w2 ((w2.alloc (.cells ZN 30)).setRow w2.heap.size X) := ArrKit.Fr.row (Fr.alloc (Fr.refl _ _) _) _ _ (.inl (Nat.le_refl _)); have HR3 := Lib.hid (hfx.keep HR2.out (fun h => h)); have HF3 := Lib.hid (HF2.out.then0 hfx); have HJL : Hid (w.heap.size < w2.heap.size) := Lib.hid (Bk.lt HR2.out); clear hfx; generalize ((w2.alloc (.cells ZN 30)).setRow w2.heap.size X) = w3 at *; generalize w2.heap.size = J at *; have HJ4 := HJ3; have HR4 := HR3; have HF4 := HF3) | ((with_reducible show wpList _ _ _ ({ dst := _, op := Op.load 30 _, type := _, pos := _, after := _, guard := _ } :: _) _ _); refine wpList_load_row rfl 30 _ rfl J rfl 30 X (0, 0) _ HJ4.out Try.underlying30 rfl HIN.out ?_) | (go_at_call 17; (with_reducible refine (HRI.out _).mono ?_); rintro e w5 ⟨rfl, hf5⟩; have HF5 := Lib.hid (HF4.out.then0 hf5); have HR5 := Lib.hid (hf5.keep HR4.out (fun h => h)); have HJ5 := Lib.hid (hf5.keep HJ4.out (fun h => h)); clear hf5) | ((with_reducible show wpList _ _ _ ({ dst := _, op := Op.store 30 _ _, type := _, pos := _, after := _, guard := _ } :: _) _ _); refine wpList_store_row rfl 30 _ _ rfl w.heap.size ZN rfl rfl 30 ZN HR5.out info_n rfl ZN_one ?_))
  refine fin_ct w.heap.size 30 ZN (.int .i64 1) (by rfl) (by rfl) (by rfl) (by rfl) Try.underlying30 (by rfl) info_n (ArrKit.Bk.row HR5.out _) ?_
  exact ⟨rfl, ArrKit.Fr.row HF5.out _ _ (.inl (Nat.le_refl _))⟩

set_option maxHeartbeats 2000000 in
set_option maxRecDepth 100000 in
theorem new_2_true (num kind : Int) (w : World) (h1 : (Lit.int .i64 num).wf = true) (h2 : (Lit.int .i64 kind).wf = true) (hk : Hid (kind ≠ 1)) (hr : nR (⟨num, kind, 0, hol, 0, 2⟩ : NV) = true) : Calls Try.prog 10 #[.int .i64 num, .int .i64 kind] w fun e w' => e = .returned (.tuple #[.agg (⟨num, kind, 0, hol, 0, 2⟩ : NV).cells.toArray, .int .i64 0]) ∧ Fr0 w w' := by
  have hok : (⟨num, kind, 0, hol, 0, 2⟩ : NV).ok := ⟨hol_ok, h1, h2, by show (Lit.int .i64 0).wf = true; decide, by show (Lit.int .i64 0).wf = true; decide, by show (Lit.int .i64 2).wf = true; decide⟩
  have hz : ∀ W, (zeroValue 30).run Try.prog W = .ok (.agg ZN) W := by intro W; kernel_rfl
  have HRI : Hid (∀ W : World, Calls Try.prog 17 #[.agg (⟨num, kind, 0, hol, 0, 2⟩ : NV).cells.toArray] W fun e w' => e = .returned (.bool true) ∧ Fr0 W w') := Lib.hid (fun W => by
    have := nright_calls (⟨num, kind, 0, hol, 0, 2⟩ : NV) W hok
    rw [hr] at this
    exact this)
  have HIN : Hid ((Try.prog.info? 30).map (·.size) = some (⟨num, kind, 0, hol, 0, 2⟩ : NV).cells.toArray.size) := Lib.hid (by rw [info_n, List.size_toArray, NV.cells_length hok])
  have HZS : Hid (ZN.size = (⟨num, kind, 0, hol, 0, 2⟩ : NV).cells.toArray.size) := Lib.hid (ZN_size.trans (by rw [List.size_toArray, NV.cells_length hok]))
  have HB0 : Hid (Try.prog.built 28 [(0, .agg HOLE), (2, .int .i64 2)] = some (hole36 2).toArray) := Lib.hid (built_stem 2)
  have HB1 : Hid (Try.prog.built 30 [(0, .int .i64 num), (1, .int .i64 kind), (3, .agg (hole36 2).toArray)] = some (⟨num, kind, 0, hol, 0, 2⟩ : NV).cells.toArray) := Lib.hid (built_new num kind 2)
  have HR0 : Hid (Bk (w.alloc (.cells ZN 30)) w.heap.size ZN 30) := Lib.hid (Bk.new w _)
  have HF0 : Hid (Fr0 w (w.alloc (.cells ZN 30))) := Lib.hid (Fr.alloc (Fr.refl _ _) _)
  have HCO : Hid ((⟨num, kind, 0, hol, 0, 2⟩ : NV).cells.toArray.all (·.oneCell') = true) := Lib.hid cells_one
  have HCB : Hid ((⟨num, kind, 0, hol, 0, 2⟩ : NV).cells.toArray.all (·.oneCell') = true) := Lib.hid cells_one
  have HIB : Hid ((Try.prog.info? 30).map (·.size) = some (⟨num, kind, 0, hol, 0, 2⟩ : NV).cells.toArray.size) := Lib.hid (by rw [info_n]; kernel_rfl)
  have HZB : Hid (ZN.size = (⟨num, kind, 0, hol, 0, 2⟩ : NV).cells.toArray.size) := Lib.hid (by kernel_rfl)
  have HC37 : Hid ((⟨num, kind, 0, hol, 0, 2⟩ : NV).cells.toArray[38]? = some (.int .i64 2)) := Lib.hid (by kernel_rfl)
  have HSET : Hid ((⟨num, kind, 0, hol, 0, 2⟩ : NV).cells.toArray.setIfInBounds 38 (.int .i64 2) = (⟨num, kind, 0, hol, 0, 2⟩ : NV).cells.toArray) := Lib.hid (by kernel_rfl)
  clear h1 hr hok h2
  generalize (⟨num, kind, 0, hol, 0, 2⟩ : NV).cells.toArray = X at *
  generalize (hole36 2).toArray = X36 at *
  go_enter Try.func10, Try.ntmps10
  go_wp2_with (first | (go_at_call 23; (with_reducible refine (copies_2 kind _ hk.out).mono ?_); rintro e w1 ⟨rfl, rfl⟩) | (go_at_call 24; (with_reducible refine (hole_calls _).mono ?_); rintro e w2 ⟨rfl, hf2⟩; have HF2 := Lib.hid (HF0.out.then0 hf2); have HR2 := Lib.hid (hf2.keep HR0.out (fun h => h)); have HN2 : Hid (Bk (w2.alloc (.cells ZN 30)) w2.heap.size ZN 30) := Lib.hid (Bk.new _ _); clear hf2) | ((with_reducible show wpList _ _ _ ({ dst := _, op := Op.build 28 _, type := _, pos := _, after := _, guard := _ } :: _) _ _); refine PtrROf.build_ev rfl 28 _ rfl [(0, .agg HOLE), (2, .int .i64 2)] (by simp [Act.eval, Act.put]) X36 HB0.out ?_) | ((with_reducible show wpList _ _ _ ({ dst := _, op := Op.build 30 _, type := _, pos := _, after := _, guard := _ } :: _) _ _); refine PtrROf.build_ev rfl 30 _ rfl [(0, .int .i64 num), (1, .int .i64 kind), (3, .agg X36)] (by simp [Act.eval, Act.put]) X HB1.out ?_) | ((with_reducible show wpList _ _ _ ({ dst := _, op := Op.store 30 _ _, type := _, pos := _, after := _, guard := _ } :: _) _ _); refine wpList_store_row rfl 30 _ _ rfl w2.heap.size X rfl rfl 30 ZN HN2.out HIN.out HZS.out HCO.out ?_; change wpList _ _ _ _ _ ((w2.alloc (.cells ZN 30)).setRow w2.heap.size X); have HJ3 : Hid (Bk ((w2.alloc (.cells ZN 30)).setRow w2.heap.size X) w2.heap.size X 30) := Lib.hid (ArrKit.Bk.row HN2.out _); have hfx : Fr0 w2 ((w2.alloc (.cells ZN 30)).setRow w2.heap.size X) := ArrKit.Fr.row (Fr.alloc (Fr.refl _ _) _) _ _ (.inl (Nat.le_refl _)); have HR3 := Lib.hid (hfx.keep HR2.out (fun h => h)); have HF3 := Lib.hid (HF2.out.then0 hfx); have HJL : Hid (w.heap.size < w2.heap.size) := Lib.hid (Bk.lt HR2.out); clear hfx; generalize ((w2.alloc (.cells ZN 30)).setRow w2.heap.size X) = w3 at *; generalize w2.heap.size = J at *; have HJ4 := HJ3; have HR4 := HR3; have HF4 := HF3) | ((with_reducible show wpList _ _ _ ({ dst := _, op := Op.load 30 _, type := _, pos := _, after := _, guard := _ } :: _) _ _); refine wpList_load_row rfl 30 _ rfl J rfl 30 X (0, 0) _ HJ4.out Try.underlying30 rfl HIN.out ?_) | (go_at_call 17; (with_reducible refine (HRI.out _).mono ?_); rintro e w5 ⟨rfl, hf5⟩; have HF5 := Lib.hid (HF4.out.then0 hf5); have HR5 := Lib.hid (hf5.keep HR4.out (fun h => h)); have HJ5 := Lib.hid (hf5.keep HJ4.out (fun h => h)); clear hf5) | ((with_reducible show wpList _ _ _ ({ dst := _, op := Op.load 30 _, type := _, pos := _, after := _, guard := _ } :: _) _ _); refine wpList_load_row rfl 30 _ rfl J rfl 30 X (0, 0) _ HJ5.out Try.underlying30 rfl HIN.out ?_) | ((with_reducible show wpList _ _ _ ({ dst := _, op := Op.store 30 _ _, type := _, pos := _, after := _, guard := _ } :: _) _ _); refine wpList_store_row rfl 30 _ _ rfl w.heap.size X rfl rfl 30 ZN HR5.out HIN.out HZS.out HCO.out ?_))
  refine fin_ct w.heap.size 30 X (.int .i64 0) (by rfl) (by rfl) (by rfl) (by rfl) Try.underlying30 (by rfl) HIN.out (ArrKit.Bk.row HR5.out _) ?_
  exact ⟨rfl, ArrKit.Fr.row HF5.out _ _ (.inl (Nat.le_refl _))⟩

theorem new_calls (num kind : Int) (w : World) (h1 : (Lit.int .i64 num).wf = true) (h2 : (Lit.int .i64 kind).wf = true) : Calls Try.prog 10 #[.int .i64 num, .int .i64 kind] w fun e w' => e = .returned (.tuple #[.agg (newX num kind), .int .i64 (newE num kind)]) ∧ Fr0 w w' := by
  by_cases hk : kind = 1
  · subst hk
    unfold newX newE newN
    rw [if_pos rfl]
    cases hr : nR ⟨num, 1, 0, hol, 0, 1⟩ with
    | false => exact new_1_false num w h1 hr
    | true => exact new_1_true num w h1 hr
  · unfold newX newE newN
    rw [if_neg hk]
    cases hr : nR ⟨num, kind, 0, hol, 0, 2⟩ with
    | false => exact new_2_false num kind w h1 h2 (Lib.hid hk) hr
    | true => exact new_2_true num kind w h1 h2 (Lib.hid hk) hr

set_option maxHeartbeats 2000000 in
set_option maxRecDepth 100000 in
theorem rnew_1_false (num : Int) (w : World) (h1 : (Lit.int .i64 num).wf = true) (hr : nR (⟨num, 1, 0, hol, 0, 1⟩ : NV) = false) : Calls Try.prog 11 #[.int .i64 num, .int .i64 1] w fun e w' => e = .returned (.tuple #[.agg ZN, .int .i64 1]) ∧ Fr0 w w' := by
  have ck : ((1 : Int) == 1) = true := by decide
  have hok : (⟨num, 1, 0, hol, 0, 1⟩ : NV).ok := ⟨hol_ok, h1, by show (Lit.int .i64 1).wf = true; decide, by show (Lit.int .i64 0).wf = true; decide, by show (Lit.int .i64 0).wf = true; decide, by show (Lit.int .i64 1).wf = true; decide⟩
  have hz : ∀ W, (zeroValue 30).run Try.prog W = .ok (.agg ZN) W := by intro W; kernel_rfl
  have HRI : Hid (∀ W : World, Calls Try.prog 13 #[.agg (⟨num, 1, 0, hol, 0, 1⟩ : NV).cells.toArray] W fun e w' => e = .returned (.bool false) ∧ Fr0 W w') := Lib.hid (fun W => by
    have := nrright_calls (⟨num, 1, 0, hol, 0, 1⟩ : NV) W hok
    rw [hr] at this
    exact this)
  have HIN : Hid ((Try.prog.info? 30).map (·.size) = some (⟨num, 1, 0, hol, 0, 1⟩ : NV).cells.toArray.size) := Lib.hid (by rw [info_n, List.size_toArray, NV.cells_length hok])
  have HZS : Hid (ZN.size = (⟨num, 1, 0, hol, 0, 1⟩ : NV).cells.toArray.size) := Lib.hid (ZN_size.trans (by rw [List.size_toArray, NV.cells_length hok]))
  have HB0 : Hid (Try.prog.built 28 [(0, .agg HOLE), (2, .int .i64 2)] = some (hole36 2).toArray) := Lib.hid (built_stem 2)
  have HB1 : Hid (Try.prog.built 30 [(0, .int .i64 num), (1, .int .i64 1), (3, .agg (hole36 2).toArray)] = some (⟨num, 1, 0, hol, 0, 2⟩ : NV).cells.toArray) := Lib.hid (built_new num 1 2)
  have HR0 : Hid (Bk (w.alloc (.cells ZN 30)) w.heap.size ZN 30) := Lib.hid (Bk.new w _)
  have HF0 : Hid (Fr0 w (w.alloc (.cells ZN 30))) := Lib.hid (Fr.alloc (Fr.refl _ _) _)
  have HCO : Hid ((⟨num, 1, 0, hol, 0, 1⟩ : NV).cells.toArray.all (·.oneCell') = true) := Lib.hid cells_one
  have HCB : Hid ((⟨num, 1, 0, hol, 0, 2⟩ : NV).cells.toArray.all (·.oneCell') = true) := Lib.hid cells_one
  have HIB : Hid ((Try.prog.info? 30).map (·.size) = some (⟨num, 1, 0, hol, 0, 2⟩ : NV).cells.toArray.size) := Lib.hid (by rw [info_n]; kernel_rfl)
  have HZB : Hid (ZN.size = (⟨num, 1, 0, hol, 0, 2⟩ : NV).cells.toArray.size) := Lib.hid (by kernel_rfl)
  have HC37 : Hid ((⟨num, 1, 0, hol, 0, 2⟩ : NV).cells.toArray[38]? = some (.int .i64 2)) := Lib.hid (by kernel_rfl)
  have HSET : Hid ((⟨num, 1, 0, hol, 0, 2⟩ : NV).cells.toArray.setIfInBounds 38 (.int .i64 1) = (⟨num, 1, 0, hol, 0, 1⟩ : NV).cells.toArray) := Lib.hid (by kernel_rfl)
  clear h1 hr hok 
  generalize (⟨num, 1, 0, hol, 0, 1⟩ : NV).cells.toArray = X at *
  generalize (⟨num, 1, 0, hol, 0, 2⟩ : NV).cells.toArray = X0 at *
  generalize (hole36 2).toArray = X36 at *
  go_enter Try.func11, Try.ntmps11
  go_wp2_with (first | ((with_reducible show wpList _ _ _ ({ dst := _, op := Op.build 30 #[], type := _, pos := _, after := _, guard := _ } :: _) _ _); refine PtrAsk.build_eq rfl 30 _ rfl ZN (by kernel_rfl) ?_) | (go_at_call 25; (with_reducible refine (rhole_calls _).mono ?_); rintro e w2 ⟨rfl, hf2⟩; have HF2 := Lib.hid (HF0.out.then0 hf2); have HR2 := Lib.hid (hf2.keep HR0.out (fun h => h)); have HN2 : Hid (Bk (w2.alloc (.cells ZN 30)) w2.heap.size ZN 30) := Lib.hid (Bk.new _ _); clear hf2) | ((with_reducible show wpList _ _ _ ({ dst := _, op := Op.build 28 _, type := _, pos := _, after := _, guard := _ } :: _) _ _); refine PtrROf.build_ev rfl 28 _ rfl [(0, .agg HOLE), (2, .int .i64 2)] (by simp [Act.eval, Act.put]) X36 HB0.out ?_) | ((with_reducible show wpList _ _ _ ({ dst := _, op := Op.build 30 _, type := _, pos := _, after := _, guard := _ } :: _) _ _); refine PtrROf.build_ev rfl 30 _ rfl [(0, .int .i64 num), (1, .int .i64 1), (3, .agg X36)] (by simp [Act.eval, Act.put]) X0 HB1.out ?_) | ((with_reducible show wpList _ _ _ ({ dst := _, op := Op.store 30 _ _, type := _, pos := _, after := _, guard := _ } :: _) _ _); refine wpList_store_row rfl 30 _ _ rfl w2.heap.size X0 rfl rfl 30 ZN HN2.out HIB.out HZB.out HCB.out ?_; change wpList _ _ _ _ _ ((w2.alloc (.cells ZN 30)).setRow w2.heap.size X0); have HJ3 : Hid (Bk ((w2.alloc (.cells ZN 30)).setRow w2.heap.size X0) w2.heap.size X0 30) := Lib.hid (ArrKit.Bk.row HN2.out _); have hfx : Fr0 w2 ((w2.alloc (.cells ZN 30)).setRow w2.heap.size X0) := ArrKit.Fr.row (Fr.alloc (Fr.refl _ _) _) _ _ (.inl (Nat.le_refl _)); have HR3 := Lib.hid (hfx.keep HR2.out (fun h => h)); have HF3 := Lib.hid (HF2.out.then0 hfx); have HJL : Hid (w.heap.size < w2.heap.size) := Lib.hid (Bk.lt HR2.out); clear hfx; generalize ((w2.alloc (.cells ZN 30)).setRow w2.heap.size X0) = w3 at *; generalize w2.heap.size = J at *; have q38 := (Bk.cell HJ3.out 38).trans HC37.out; have z38 := Bk.free HJ3.out 38; have HJ4 : Hid (Bk (w3.setCell ⟨J, 38, none⟩ (.int .i64 1)) J X 30) := Lib.hid (by rw [← HSET.out]; exact HJ3.out.set 38 _); have HR4 : Hid (Bk (w3.setCell ⟨J, 38, none⟩ (.int .i64 1)) w.heap.size ZN 30) := Lib.hid (Bk.setOther HR3.out _ _ (Nat.ne_of_lt HJL.out)); have HF4 : Hid (Fr0 w (w3.setCell ⟨J, 38, none⟩ (.int .i64 1))) := Lib.hid (Fr.set HF3.out _ _ (.inl (Nat.le_of_lt HJL.out)))) | ((with_reducible show wpList _ _ _ ({ dst := _, op := Op.load 30 _, type := _, pos := _, after := _, guard := _ } :: _) _ _); refine wpList_load_row rfl 30 _ rfl J rfl 30 X (0, 0) _ HJ4.out Try.underlying30 rfl HIN.out ?_) | (go_at_call 13; (with_reducible refine (HRI.out _).mono ?_); rintro e w5 ⟨rfl, hf5⟩; have HF5 := Lib.hid (HF4.out.then0 hf5); have HR5 := Lib.hid (hf5.keep HR4.out (fun h => h)); have HJ5 := Lib.hid (hf5.keep HJ4.out (fun h => h)); clear hf5) | ((with_reducible show wpList _ _ _ ({ dst := _, op := Op.store 30 _ _, type := _, pos := _, after := _, guard := _ } :: _) _ _); refine wpList_store_row rfl 30 _ _ rfl w.heap.size ZN rfl rfl 30 ZN HR5.out info_n rfl ZN_one ?_))
  refine fin_ct w.heap.size 30 ZN (.int .i64 1) (by rfl) (by rfl) (by rfl) (by rfl) Try.underlying30 (by rfl) info_n (ArrKit.Bk.row HR5.out _) ?_
  exact ⟨rfl, ArrKit.Fr.row HF5.out _ _ (.inl (Nat.le_refl _))⟩

set_option maxHeartbeats 2000000 in
set_option maxRecDepth 100000 in
theorem rnew_1_true (num : Int) (w : World) (h1 : (Lit.int .i64 num).wf = true) (hr : nR (⟨num, 1, 0, hol, 0, 1⟩ : NV) = true) : Calls Try.prog 11 #[.int .i64 num, .int .i64 1] w fun e w' => e = .returned (.tuple #[.agg (⟨num, 1, 0, hol, 0, 1⟩ : NV).cells.toArray, .int .i64 0]) ∧ Fr0 w w' := by
  have ck : ((1 : Int) == 1) = true := by decide
  have hok : (⟨num, 1, 0, hol, 0, 1⟩ : NV).ok := ⟨hol_ok, h1, by show (Lit.int .i64 1).wf = true; decide, by show (Lit.int .i64 0).wf = true; decide, by show (Lit.int .i64 0).wf = true; decide, by show (Lit.int .i64 1).wf = true; decide⟩
  have hz : ∀ W, (zeroValue 30).run Try.prog W = .ok (.agg ZN) W := by intro W; kernel_rfl
  have HRI : Hid (∀ W : World, Calls Try.prog 13 #[.agg (⟨num, 1, 0, hol, 0, 1⟩ : NV).cells.toArray] W fun e w' => e = .returned (.bool true) ∧ Fr0 W w') := Lib.hid (fun W => by
    have := nrright_calls (⟨num, 1, 0, hol, 0, 1⟩ : NV) W hok
    rw [hr] at this
    exact this)
  have HIN : Hid ((Try.prog.info? 30).map (·.size) = some (⟨num, 1, 0, hol, 0, 1⟩ : NV).cells.toArray.size) := Lib.hid (by rw [info_n, List.size_toArray, NV.cells_length hok])
  have HZS : Hid (ZN.size = (⟨num, 1, 0, hol, 0, 1⟩ : NV).cells.toArray.size) := Lib.hid (ZN_size.trans (by rw [List.size_toArray, NV.cells_length hok]))
  have HB0 : Hid (Try.prog.built 28 [(0, .agg HOLE), (2, .int .i64 2)] = some (hole36 2).toArray) := Lib.hid (built_stem 2)
  have HB1 : Hid (Try.prog.built 30 [(0, .int .i64 num), (1, .int .i64 1), (3, .agg (hole36 2).toArray)] = some (⟨num, 1, 0, hol, 0, 2⟩ : NV).cells.toArray) := Lib.hid (built_new num 1 2)
  have HR0 : Hid (Bk (w.alloc (.cells ZN 30)) w.heap.size ZN 30) := Lib.hid (Bk.new w _)
  have HF0 : Hid (Fr0 w (w.alloc (.cells ZN 30))) := Lib.hid (Fr.alloc (Fr.refl _ _) _)
  have HCO : Hid ((⟨num, 1, 0, hol, 0, 1⟩ : NV).cells.toArray.all (·.oneCell') = true) := Lib.hid cells_one
  have HCB : Hid ((⟨num, 1, 0, hol, 0, 2⟩ : NV).cells.toArray.all (·.oneCell') = true) := Lib.hid cells_one
  have HIB : Hid ((Try.prog.info? 30).map (·.size) = some (⟨num, 1, 0, hol, 0, 2⟩ : NV).cells.toArray.size) := Lib.hid (by rw [info_n]; kernel_rfl)
  have HZB : Hid (ZN.size = (⟨num, 1, 0, hol, 0, 2⟩ : NV).cells.toArray.size) := Lib.hid (by kernel_rfl)
  have HC37 : Hid ((⟨num, 1, 0, hol, 0, 2⟩ : NV).cells.toArray[38]? = some (.int .i64 2)) := Lib.hid (by kernel_rfl)
  have HSET : Hid ((⟨num, 1, 0, hol, 0, 2⟩ : NV).cells.toArray.setIfInBounds 38 (.int .i64 1) = (⟨num, 1, 0, hol, 0, 1⟩ : NV).cells.toArray) := Lib.hid (by kernel_rfl)
  clear h1 hr hok 
  generalize (⟨num, 1, 0, hol, 0, 1⟩ : NV).cells.toArray = X at *
  generalize (⟨num, 1, 0, hol, 0, 2⟩ : NV).cells.toArray = X0 at *
  generalize (hole36 2).toArray = X36 at *
  go_enter Try.func11, Try.ntmps11
  go_wp2_with (first | (go_at_call 25; (with_reducible refine (rhole_calls _).mono ?_); rintro e w2 ⟨rfl, hf2⟩; have HF2 := Lib.hid (HF0.out.then0 hf2); have HR2 := Lib.hid (hf2.keep HR0.out (fun h => h)); have HN2 : Hid (Bk (w2.alloc (.cells ZN 30)) w2.heap.size ZN 30) := Lib.hid (Bk.new _ _); clear hf2) | ((with_reducible show wpList _ _ _ ({ dst := _, op := Op.build 28 _, type := _, pos := _, after := _, guard := _ } :: _) _ _); refine PtrROf.build_ev rfl 28 _ rfl [(0, .agg HOLE), (2, .int .i64 2)] (by simp [Act.eval, Act.put]) X36 HB0.out ?_) | ((with_reducible show wpList _ _ _ ({ dst := _, op := Op.build 30 _, type := _, pos := _, after := _, guard := _ } :: _) _ _); refine PtrROf.build_ev rfl 30 _ rfl [(0, .int .i64 num), (1, .int .i64 1), (3, .agg X36)] (by simp [Act.eval, Act.put]) X0 HB1.out ?_) | ((with_reducible show wpList _ _ _ ({ dst := _, op := Op.store 30 _ _, type := _, pos := _, after := _, guard := _ } :: _) _ _); refine wpList_store_row rfl 30 _ _ rfl w2.heap.size X0 rfl rfl 30 ZN HN2.out HIB.out HZB.out HCB.out ?_; change wpList _ _ _ _ _ ((w2.alloc (.cells ZN 30)).setRow w2.heap.size X0); have HJ3 : Hid (Bk ((w2.alloc (.cells ZN 30)).setRow w2.heap.size X0) w2.heap.size X0 30) := Lib.hid (ArrKit.Bk.row HN2.out _); have hfx : Fr0 w2 ((w2.alloc (.cells ZN 30)).setRow w2.heap.size X0) := ArrKit.Fr.row (Fr.alloc (Fr.refl _ _) _) _ _ (.inl (Nat.le_refl _)); have HR3 := Lib.hid (hfx.keep HR2.out (fun h => h)); have HF3 := Lib.hid (HF2.out.then0 hfx); have HJL : Hid (w.heap.size < w2.heap.size) := Lib.hid (Bk.lt HR2.out); clear hfx; generalize ((w2.alloc (.cells ZN 30)).setRow w2.heap.size X0) = w3 at *; generalize w2.heap.size = J at *; have q38 := (Bk.cell HJ3.out 38).trans HC37.out; have z38 := Bk.free HJ3.out 38; have HJ4 : Hid (Bk (w3.setCell ⟨J, 38, none⟩ (.int .i64 1)) J X 30) := Lib.hid (by rw [← HSET.out]; exact HJ3.out.set 38 _); have HR4 : Hid (Bk (w3.setCell ⟨J, 38, none⟩ (.int .i64 1)) w.heap.size ZN 30) := Lib.hid (Bk.setOther HR3.out _ _ (Nat.ne_of_lt HJL.out)); have HF4 : Hid (Fr0 w (w3.setCell ⟨J, 38, none⟩ (.int .i64 1))) := Lib.hid (Fr.set HF3.out _ _ (.inl (Nat.le_of_lt HJL.out)))) | ((with_reducible show wpList _ _ _ ({ dst := _, op := Op.load 30 _, type := _, pos := _, after := _, guard := _ } :: _) _ _); refine wpList_load_row rfl 30 _ rfl J rfl 30 X (0, 0) _ HJ4.out Try.underlying30 rfl HIN.out ?_) | (go_at_call 13; (with_reducible refine (HRI.out _).mono ?_); rintro e w5 ⟨rfl, hf5⟩; have HF5 := Lib.hid (HF4.out.then0 hf5); have HR5 := Lib.hid (hf5.keep HR4.out (fun h => h)); have HJ5 := Lib.hid (hf5.keep HJ4.out (fun h => h)); clear hf5) | ((with_reducible show wpList _ _ _ ({ dst := _, op := Op.load 30 _, type := _, pos := _, after := _, guard := _ } :: _) _ _); refine wpList_load_row rfl 30 _ rfl J rfl 30 X (0, 0) _ HJ5.out Try.underlying30 rfl HIN.out ?_) | ((with_reducible show wpList _ _ _ ({ dst := _, op := Op.store 30 _ _, type := _, pos := _, after := _, guard := _ } :: _) _ _); refine wpList_store_row rfl 30 _ _ rfl w.heap.size X rfl rfl 30 ZN HR5.out HIN.out HZS.out HCO.out ?_))
  refine fin_ct w.heap.size 30 X (.int .i64 0) (by rfl) (by rfl) (by rfl) (by rfl) Try.underlying30 (by rfl) HIN.out (ArrKit.Bk.row HR5.out _) ?_
  exact ⟨rfl, ArrKit.Fr.row HF5.out _ _ (.inl (Nat.le_refl _))⟩

set_option maxHeartbeats 2000000 in
set_option maxRecDepth 100000 in
theorem rnew_2_false (num kind : Int) (w : World) (h1 : (Lit.int .i64 num).wf = true) (h2 : (Lit.int .i64 kind).wf = true) (hk : Hid (kind ≠ 1)) (hr : nR (⟨num, kind, 0, hol, 0, 2⟩ : NV) = false) : Calls Try.prog 11 #[.int .i64 num, .int .i64 kind] w fun e w' => e = .returned (.tuple #[.agg ZN, .int .i64 1]) ∧ Fr0 w w' := by
  have ck : ((kind : Int) == 1) = false := by rw [beq_eq_false_iff_ne]; exact hk.out
  have hok : (⟨num, kind, 0, hol, 0, 2⟩ : NV).ok := ⟨hol_ok, h1, h2, by show (Lit.int .i64 0).wf = true; decide, by show (Lit.int .i64 0).wf = true; decide, by show (Lit.int .i64 2).wf = true; decide⟩
  have hz : ∀ W, (zeroValue 30).run Try.prog W = .ok (.agg ZN) W := by intro W; kernel_rfl
  have HRI : Hid (∀ W : World, Calls Try.prog 13 #[.agg (⟨num, kind, 0, hol, 0, 2⟩ : NV).cells.toArray] W fun e w' => e = .returned (.bool false) ∧ Fr0 W w') := Lib.hid (fun W => by
    have := nrright_calls (⟨num, kind, 0, hol, 0, 2⟩ : NV) W hok
    rw [hr] at this
    exact this)
  have HIN : Hid ((Try.prog.info? 30).map (·.size) = some (⟨num, kind, 0, hol, 0, 2⟩ : NV).cells.toArray.size) := Lib.hid (by rw [info_n, List.size_toArray, NV.cells_length hok])
  have HZS : Hid (ZN.size = (⟨num, kind, 0, hol, 0, 2⟩ : NV).cells.toArray.size) := Lib.hid (ZN_size.trans (by rw [List.size_toArray, NV.cells_length hok]))
  have HB0 : Hid (Try.prog.built 28 [(0, .agg HOLE), (2, .int .i64 2)] = some (hole36 2).toArray) := Lib.hid (built_stem 2)
  have HB1 : Hid (Try.prog.built 30 [(0, .int .i64 num), (1, .int .i64 kind), (3, .agg (hole36 2).toArray)] = some (⟨num, kind, 0, hol, 0, 2⟩ : NV).cells.toArray) := Lib.hid (built_new num kind 2)
  have HR0 : Hid (Bk (w.alloc (.cells ZN 30)) w.heap.size ZN 30) := Lib.hid (Bk.new w _)
  have HF0 : Hid (Fr0 w (w.alloc (.cells ZN 30))) := Lib.hid (Fr.alloc (Fr.refl _ _) _)
  have HCO : Hid ((⟨num, kind, 0, hol, 0, 2⟩ : NV).cells.toArray.all (·.oneCell') = true) := Lib.hid cells_one
  have HCB : Hid ((⟨num, kind, 0, hol, 0, 2⟩ : NV).cells.toArray.all (·.oneCell') = true) := Lib.hid cells_one
  have HIB : Hid ((Try.prog.info? 30).map (·.size) = some (⟨num, kind, 0, hol, 0, 2⟩ : NV).cells.toArray.size) := Lib.hid (by rw [info_n]; kernel_rfl)
  have HZB : Hid (ZN.size = (⟨num, kind, 0, hol, 0, 2⟩ : NV).cells.toArray.size) := Lib.hid (by kernel_rfl)
  have HC37 : Hid ((⟨num, kind, 0, hol, 0, 2⟩ : NV).cells.toArray[38]? = some (.int .i64 2)) := Lib.hid (by kernel_rfl)
  have HSET : Hid ((⟨num, kind, 0, hol, 0, 2⟩ : NV).cells.toArray.setIfInBounds 38 (.int .i64 2) = (⟨num, kind, 0, hol, 0, 2⟩ : NV).cells.toArray) := Lib.hid (by kernel_rfl)
  clear h1 hr hok h2
  generalize (⟨num, kind, 0, hol, 0, 2⟩ : NV).cells.toArray = X at *
  generalize (hole36 2).toArray = X36 at *
  go_enter Try.func11, Try.ntmps11
  go_wp2_with (first | ((with_reducible show wpList _ _ _ ({ dst := _, op := Op.build 30 #[], type := _, pos := _, after := _, guard := _ } :: _) _ _); refine PtrAsk.build_eq rfl 30 _ rfl ZN (by kernel_rfl) ?_) | (go_at_call 25; (with_reducible refine (rhole_calls _).mono ?_); rintro e w2 ⟨rfl, hf2⟩; have HF2 := Lib.hid (HF0.out.then0 hf2); have HR2 := Lib.hid (hf2.keep HR0.out (fun h => h)); have HN2 : Hid (Bk (w2.alloc (.cells ZN 30)) w2.heap.size ZN 30) := Lib.hid (Bk.new _ _); clear hf2) | ((with_reducible show wpList _ _ _ ({ dst := _, op := Op.build 28 _, type := _, pos := _, after := _, guard := _ } :: _) _ _); refine PtrROf.build_ev rfl 28 _ rfl [(0, .agg HOLE), (2, .int .i64 2)] (by simp [Act.eval, Act.put]) X36 HB0.out ?_) | ((with_reducible show wpList _ _ _ ({ dst := _, op := Op.build 30 _, type := _, pos := _, after := _, guard := _ } :: _) _ _); refine PtrROf.build_ev rfl 30 _ rfl [(0, .int .i64 num), (1, .int .i64 kind), (3, .agg X36)] (by simp [Act.eval, Act.put]) X HB1.out ?_) | ((with_reducible show wpList _ _ _ ({ dst := _, op := Op.store 30 _ _, type := _, pos := _, after := _, guard := _ } :: _) _ _); refine wpList_store_row rfl 30 _ _ rfl w2.heap.size X rfl rfl 30 ZN HN2.out HIN.out HZS.out HCO.out ?_; change wpList _ _ _ _ _ ((w2.alloc (.cells ZN 30)).setRow w2.heap.size X); have HJ3 : Hid (Bk ((w2.alloc (.cells ZN 30)).setRow w2.heap.size X) w2.heap.size X 30) := Lib.hid (ArrKit.Bk.row HN2.out _); have hfx : Fr0 w2 ((w2.alloc (.cells ZN 30)).setRow w2.heap.size X) := ArrKit.Fr.row (Fr.alloc (Fr.refl _ _) _) _ _ (.inl (Nat.le_refl _)); have HR3 := Lib.hid (hfx.keep HR2.out (fun h => h)); have HF3 := Lib.hid (HF2.out.then0 hfx); have HJL : Hid (w.heap.size < w2.heap.size) := Lib.hid (Bk.lt HR2.out); clear hfx; generalize ((w2.alloc (.cells ZN 30)).setRow w2.heap.size X) = w3 at *; generalize w2.heap.size = J at *; have HJ4 := HJ3; have HR4 := HR3; have HF4 := HF3) | ((with_reducible show wpList _ _ _ ({ dst := _, op := Op.load 30 _, type := _, pos := _, after := _, guard := _ } :: _) _ _); refine wpList_load_row rfl 30 _ rfl J rfl 30 X (0, 0) _ HJ4.out Try.underlying30 rfl HIN.out ?_) | (go_at_call 13; (with_reducible refine (HRI.out _).mono ?_); rintro e w5 ⟨rfl, hf5⟩; have HF5 := Lib.hid (HF4.out.then0 hf5); have HR5 := Lib.hid (hf5.keep HR4.out (fun h => h)); have HJ5 := Lib.hid (hf5.keep HJ4.out (fun h => h)); clear hf5) | ((with_reducible show wpList _ _ _ ({ dst := _, op := Op.store 30 _ _, type := _, pos := _, after := _, guard := _ } :: _) _ _); refine wpList_store_row rfl 30 _ _ rfl w.heap.size ZN rfl rfl 30 ZN HR5.out info_n rfl ZN_one ?_))
  refine fin_ct w.heap.size 30 ZN (.int .i64 1) (by rfl) (by rfl) (by rfl) (by rfl) Try.underlying30 (by rfl) info_n (ArrKit.Bk.row HR5.out _) ?_
  exact ⟨rfl, ArrKit.Fr.row HF5.out _ _ (.inl (Nat.le_refl _))⟩

set_option maxHeartbeats 2000000 in
set_option maxRecDepth 100000 in
theorem rnew_2_true (num kind : Int) (w : World) (h1 : (Lit.int .i64 num).wf = true) (h2 : (Lit.int .i64 kind).wf = true) (hk : Hid (kind ≠ 1)) (hr : nR (⟨num, kind, 0, hol, 0, 2⟩ : NV) = true) : Calls Try.prog 11 #[.int .i64 num, .int .i64 kind] w fun e w' => e = .returned (.tuple #[.agg (⟨num, kind, 0, hol, 0, 2⟩ : NV).cells.toArray, .int .i64 0]) ∧ Fr0 w w' := by
  have ck : ((kind : Int) == 1) = false := by rw [beq_eq_false_iff_ne]; exact hk.out
  have hok : (⟨num, kind, 0, hol, 0, 2⟩ : NV).ok := ⟨hol_ok, h1, h2, by show (Lit.int .i64 0).wf = true; decide, by show (Lit.int .i64 0).wf = true; decide, by show (Lit.int .i64 2).wf = true; decide⟩
  have hz : ∀ W, (zeroValue 30).run Try.prog W = .ok (.agg ZN) W := by intro W; kernel_rfl
  have HRI : Hid (∀ W : World, Calls Try.prog 13 #[.agg (⟨num, kind, 0, hol, 0, 2⟩ : NV).cells.toArray] W fun e w' => e = .returned (.bool true) ∧ Fr0 W w') := Lib.hid (fun W => by
    have := nrright_calls (⟨num, kind, 0, hol, 0, 2⟩ : NV) W hok
    rw [hr] at this
    exact this)
  have HIN : Hid ((Try.prog.info? 30).map (·.size) = some (⟨num, kind, 0, hol, 0, 2⟩ : NV).cells.toArray.size) := Lib.hid (by rw [info_n, List.size_toArray, NV.cells_length hok])
  have HZS : Hid (ZN.size = (⟨num, kind, 0, hol, 0, 2⟩ : NV).cells.toArray.size) := Lib.hid (ZN_size.trans (by rw [List.size_toArray, NV.cells_length hok]))
  have HB0 : Hid (Try.prog.built 28 [(0, .agg HOLE), (2, .int .i64 2)] = some (hole36 2).toArray) := Lib.hid (built_stem 2)
  have HB1 : Hid (Try.prog.built 30 [(0, .int .i64 num), (1, .int .i64 kind), (3, .agg (hole36 2).toArray)] = some (⟨num, kind, 0, hol, 0, 2⟩ : NV).cells.toArray) := Lib.hid (built_new num kind 2)
  have HR0 : Hid (Bk (w.alloc (.cells ZN 30)) w.heap.size ZN 30) := Lib.hid (Bk.new w _)
  have HF0 : Hid (Fr0 w (w.alloc (.cells ZN 30))) := Lib.hid (Fr.alloc (Fr.refl _ _) _)
  have HCO : Hid ((⟨num, kind, 0, hol, 0, 2⟩ : NV).cells.toArray.all (·.oneCell') = true) := Lib.hid cells_one
  have HCB : Hid ((⟨num, kind, 0, hol, 0, 2⟩ : NV).cells.toArray.all (·.oneCell') = true) := Lib.hid cells_one
  have HIB : Hid ((Try.prog.info? 30).map (·.size) = some (⟨num, kind, 0, hol, 0, 2⟩ : NV).cells.toArray.size) := Lib.hid (by rw [info_n]; kernel_rfl)
  have HZB : Hid (ZN.size = (⟨num, kind, 0, hol, 0, 2⟩ : NV).cells.toArray.size) := Lib.hid (by kernel_rfl)
  have HC37 : Hid ((⟨num, kind, 0, hol, 0, 2⟩ : NV).cells.toArray[38]? = some (.int .i64 2)) := Lib.hid (by kernel_rfl)
  have HSET : Hid ((⟨num, kind, 0, hol, 0, 2⟩ : NV).cells.toArray.setIfInBounds 38 (.int .i64 2) = (⟨num, kind, 0, hol, 0, 2⟩ : NV).cells.toArray) := Lib.hid (by kernel_rfl)
  clear h1 hr hok h2
  generalize (⟨num, kind, 0, hol, 0, 2⟩ : NV).cells.toArray = X at *
  generalize (hole36 2).toArray = X36 at *
  go_enter Try.func11, Try.ntmps11
  go_wp2_with (first | (go_at_call 25; (with_reducible refine (rhole_calls _).mono ?_); rintro e w2 ⟨rfl, hf2⟩; have HF2 := Lib.hid (HF0.out.then0 hf2); have HR2 := Lib.hid (hf2.keep HR0.out (fun h => h)); have HN2 : Hid (Bk (w2.alloc (.cells ZN 30)) w2.heap.size ZN 30) := Lib.hid (Bk.new _ _); clear hf2) | ((with_reducible show wpList _ _ _ ({ dst := _, op := Op.build 28 _, type := _, pos := _, after := _, guard := _ } :: _) _ _); refine PtrROf.build_ev rfl 28 _ rfl [(0, .agg HOLE), (2, .int .i64 2)] (by simp [Act.eval, Act.put]) X36 HB0.out ?_) | ((with_reducible show wpList _ _ _ ({ dst := _, op := Op.build 30 _, type := _, pos := _, after := _, guard := _ } :: _) _ _); refine PtrROf.build_ev rfl 30 _ rfl [(0, .int .i64 num), (1, .int .i64 kind), (3, .agg X36)] (by simp [Act.eval, Act.put]) X HB1.out ?_) | ((with_reducible show wpList _ _ _ ({ dst := _, op := Op.store 30 _ _, type := _, pos := _, after := _, guard := _ } :: _) _ _); refine wpList_store_row rfl 30 _ _ rfl w2.heap.size X rfl rfl 30 ZN HN2.out HIN.out HZS.out HCO.out ?_; change wpList _ _ _ _ _ ((w2.alloc (.cells ZN 30)).setRow w2.heap.size X); have HJ3 : Hid (Bk ((w2.alloc (.cells ZN 30)).setRow w2.heap.size X) w2.heap.size X 30) := Lib.hid (ArrKit.Bk.row HN2.out _); have hfx : Fr0 w2 ((w2.alloc (.cells ZN 30)).setRow w2.heap.size X) := ArrKit.Fr.row (Fr.alloc (Fr.refl _ _) _) _ _ (.inl (Nat.le_refl _)); have HR3 := Lib.hid (hfx.keep HR2.out (fun h => h)); have HF3 := Lib.hid (HF2.out.then0 hfx); have HJL : Hid (w.heap.size < w2.heap.size) := Lib.hid (Bk.lt HR2.out); clear hfx; generalize ((w2.alloc (.cells ZN 30)).setRow w2.heap.size X) = w3 at *; generalize w2.heap.size = J at *; have HJ4 := HJ3; have HR4 := HR3; have HF4 := HF3) | ((with_reducible show wpList _ _ _ ({ dst := _, op := Op.load 30 _, type := _, pos := _, after := _, guard := _ } :: _) _ _); refine wpList_load_row rfl 30 _ rfl J rfl 30 X (0, 0) _ HJ4.out Try.underlying30 rfl HIN.out ?_) | (go_at_call 13; (with_reducible refine (HRI.out _).mono ?_); rintro e w5 ⟨rfl, hf5⟩; have HF5 := Lib.hid (HF4.out.then0 hf5); have HR5 := Lib.hid (hf5.keep HR4.out (fun h => h)); have HJ5 := Lib.hid (hf5.keep HJ4.out (fun h => h)); clear hf5) | ((with_reducible show wpList _ _ _ ({ dst := _, op := Op.load 30 _, type := _, pos := _, after := _, guard := _ } :: _) _ _); refine wpList_load_row rfl 30 _ rfl J rfl 30 X (0, 0) _ HJ5.out Try.underlying30 rfl HIN.out ?_) | ((with_reducible show wpList _ _ _ ({ dst := _, op := Op.store 30 _ _, type := _, pos := _, after := _, guard := _ } :: _) _ _); refine wpList_store_row rfl 30 _ _ rfl w.heap.size X rfl rfl 30 ZN HR5.out HIN.out HZS.out HCO.out ?_))
  refine fin_ct w.heap.size 30 X (.int .i64 0) (by rfl) (by rfl) (by rfl) (by rfl) Try.underlying30 (by rfl) HIN.out (ArrKit.Bk.row HR5.out _) ?_
  exact ⟨rfl, ArrKit.Fr.row HF5.out _ _ (.inl (Nat.le_refl _))⟩

theorem rnew_calls (num kind : Int) (w : World) (h1 : (Lit.int .i64 num).wf = true) (h2 : (Lit.int .i64 kind).wf = true) : Calls Try.prog 11 #[.int .i64 num, .int .i64 kind] w fun e w' => e = .returned (.tuple #[.agg (newX num kind), .int .i64 (newE num kind)]) ∧ Fr0 w w' := by
  by_cases hk : kind = 1
  · subst hk
    unfold newX newE newN
    rw [if_pos rfl]
    cases hr : nR ⟨num, 1, 0, hol, 0, 1⟩ with
    | false => exact rnew_1_false num w h1 hr
    | true => exact rnew_1_true num w h1 hr
  · unfold newX newE newN
    rw [if_neg hk]
    cases hr : nR ⟨num, kind, 0, hol, 0, 2⟩ with
    | false => exact rnew_2_false num kind w h1 h2 (Lib.hid hk) hr
    | true => exact rnew_2_true num kind w h1 h2 (Lib.hid hk) hr

end Go.Proofs.Ytfjkbabeceaelaa.InoNew
