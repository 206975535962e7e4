/- The node of bytes: the walk of inode.Take. -/
import Derived.Test.YtfjkbabeceaelaaInoPut
import Derived.Test.YtfjkbabeceaelaaPtrTake
set_option linter.unusedVariables false
set_option linter.unusedSimpArgs false
namespace Go.Proofs.Ytfjkbabeceaelaa.InoTake
open Go Go.RowKit Go.Proofs.Ytfjkbabeceaelaa.K Go.Proofs.Ytfjkbabeceaelaa.EqKit Go.Proofs.Ytfjkbabeceaelaa.PtrKit Go.Proofs.Ytfjkbabeceaelaa.ArrKit Go.Proofs.Ytfjkbabeceaelaa.HeldKit Go.Proofs.Ytfjkbabeceaelaa.PtrAsk Go.Proofs.Ytfjkbabeceaelaa.PtrRRight Go.Proofs.Ytfjkbabeceaelaa.ShaStep Go.Proofs.Ytfjkbabeceaelaa.ShaSum Go.Proofs.Ytfjkbabeceaelaa.PtrOf Go.Proofs.Ytfjkbabeceaelaa.PtrROf Go.Proofs.Ytfjkbabeceaelaa.WordPut Go.Proofs.Ytfjkbabeceaelaa.WordTake Go.Proofs.Ytfjkbabeceaelaa.PtrPut Go.Proofs.Ytfjkbabeceaelaa.PtrTake Go.Proofs.Ytfjkbabeceaelaa.InoKit Go.Proofs.Ytfjkbabeceaelaa.InoRRight Go.Proofs.Ytfjkbabeceaelaa.InoNew Go.Proofs.Ytfjkbabeceaelaa.InoPut

def prt (bl : List UInt8) : List UInt8 := (bl.drop 8).take 40
def szt (bl : List UInt8) : Nat := num ((bl.drop 4).take 4)
def at8 (bl : List UInt8) (i : Nat) : Int := ((bl.getD i 0).toNat : Int)
/-- the node that 64 bytes say -/
def tN (bl : List UInt8) (n : Int) : NV := ⟨n, at8 bl 0, at8 bl 1, ⟨tkA (prt bl), tkB (prt bl), tkS (prt bl)⟩, (szt bl : Int), at8 bl 2⟩
theorem prt_length {bl : List UInt8} (h : bl.length = 64) : (prt bl).length = 40 := by simp [prt, h]
theorem dec_wf (x : Nat) (h : x < 4294967296) : (Lit.int .i64 (dec x)).wf = true := by
  unfold dec
  split
  · decide
  · simp [Lit.wf, IntKind.min, IntKind.max, IntKind.signed, IntKind.bits]; omega
theorem num4 (q : List UInt8) (h : q.length ≤ 4) : num q < 4294967296 := by
  have h1 := num_lt q
  have h2 : (256 : Nat) ^ q.length ≤ 256 ^ 4 := Nat.pow_le_pow_right (by decide) h
  have : (256 : Nat) ^ 4 = 4294967296 := by decide
  omega
theorem wf_small (n : Nat) (h : n < 4294967296) : (Lit.int .i64 (n : Int)).wf = true := by
  simp [Lit.wf, IntKind.min, IntKind.max, IntKind.signed, IntKind.bits]; omega
theorem tN_ok {bl : List UInt8} (h : bl.length = 64) {n : Int} (hn : (Lit.int .i64 n).wf = true) : (tN bl n).ok := by
  have hb : ∀ i, (bl.getD i 0).toNat < 4294967296 := fun i => by have := (bl.getD i 0).toNat_lt; omega
  exact ⟨⟨by simp [tN, tkS, prt, h], dec_wf _ (num4 _ (by rw [List.length_take]; omega)), dec_wf _ (num4 _ (by rw [List.length_take]; omega))⟩, hn, wf_small _ (hb 0), wf_small _ (hb 1), wf_small _ (num4 _ (by rw [List.length_take]; omega)), wf_small _ (hb 2)⟩

set_option maxHeartbeats 2000000 in
set_option maxRecDepth 100000 in
theorem take_low (X : Array Value) (n : Int) (w : World) (h : n < 1) : Calls Try.prog 8 #[.agg X, .int .i64 n] w fun e w' => e = .returned (.tuple #[.agg ZN, .int .i64 1]) ∧ Fr0 w w' := by
  have c0 : decide (n < 1) = true := decide_eq_true (by omega)
  have hs1 : (w.alloc (.cells X 22)).heap.size = w.heap.size + 1 := by simp
  have HX : Hid (Bk ((w.alloc (.cells X 22)).alloc (.cells ZN 30)) w.heap.size X 22) := Lib.hid (Bk.alloc (Bk.new w _) _)
  have HR : Hid (Bk ((w.alloc (.cells X 22)).alloc (.cells ZN 30)) (w.heap.size + 1) ZN 30) := Lib.hid (by have := Bk.new (w.alloc (.cells X 22)) (.cells ZN 30); rwa [hs1] at this)
  have HF : Hid (Fr0 w ((w.alloc (.cells X 22)).alloc (.cells ZN 30))) := Lib.hid (Fr.alloc (Fr.alloc (Fr.refl _ _) _) _)
  have hz : ∀ W, (zeroValue 30).run Try.prog W = .ok (.agg ZN) W := by intro W; kernel_rfl
  have hzb : ∀ W, (zeroValue 22).run Try.prog W = .ok (.agg ZB) W := by intro W; kernel_rfl
  clear hs1
  go_enter Try.func8, Try.ntmps8
  go_wp2_with (first | ((with_reducible show wpList _ _ _ ({ dst := _, op := Op.build 30 #[], type := _, pos := _, after := _, guard := _ } :: _) _ _); refine PtrAsk.build_eq rfl 30 _ rfl ZN (by kernel_rfl) ?_) | ((with_reducible show wpList _ _ _ ({ dst := _, op := Op.store 30 _ _, type := _, pos := _, after := _, guard := _ } :: _) _ _); refine wpList_store_row rfl 30 _ _ rfl (w.heap.size + 1) ZN rfl rfl 30 ZN HR.out info_n rfl ZN_one ?_))
  refine fin_ct (w.heap.size + 1) 30 ZN (.int .i64 1) (by rfl) (by rfl) (by rfl) (by rfl) Try.underlying30 (by rfl) info_n (ArrKit.Bk.row HR.out _) ?_
  exact ⟨rfl, ArrKit.Fr.row HF.out _ _ (.inl (by omega))⟩

set_option maxHeartbeats 2000000 in
set_option maxRecDepth 100000 in
theorem take_high (X : Array Value) (n : Int) (w : World) (h : 64 < n) : Calls Try.prog 8 #[.agg X, .int .i64 n] w fun e w' => e = .returned (.tuple #[.agg ZN, .int .i64 1]) ∧ Fr0 w w' := by
  have c0 : decide (n < 1) = false := decide_eq_false (by omega)
  have c1 : decide (64 < n) = true := decide_eq_true (by omega)
  have hs1 : (w.alloc (.cells X 22)).heap.size = w.heap.size + 1 := by simp
  have HX : Hid (Bk ((w.alloc (.cells X 22)).alloc (.cells ZN 30)) w.heap.size X 22) := Lib.hid (Bk.alloc (Bk.new w _) _)
  have HR : Hid (Bk ((w.alloc (.cells X 22)).alloc (.cells ZN 30)) (w.heap.size + 1) ZN 30) := Lib.hid (by have := Bk.new (w.alloc (.cells X 22)) (.cells ZN 30); rwa [hs1] at this)
  have HF : Hid (Fr0 w ((w.alloc (.cells X 22)).alloc (.cells ZN 30))) := Lib.hid (Fr.alloc (Fr.alloc (Fr.refl _ _) _) _)
  have hz : ∀ W, (zeroValue 30).run Try.prog W = .ok (.agg ZN) W := by intro W; kernel_rfl
  have hzb : ∀ W, (zeroValue 22).run Try.prog W = .ok (.agg ZB) W := by intro W; kernel_rfl
  clear hs1
  go_enter Try.func8, Try.ntmps8
  go_wp2_with (first | ((with_reducible show wpList _ _ _ ({ dst := _, op := Op.build 30 #[], type := _, pos := _, after := _, guard := _ } :: _) _ _); refine PtrAsk.build_eq rfl 30 _ rfl ZN (by kernel_rfl) ?_) | ((with_reducible show wpList _ _ _ ({ dst := _, op := Op.store 30 _ _, type := _, pos := _, after := _, guard := _ } :: _) _ _); refine wpList_store_row rfl 30 _ _ rfl (w.heap.size + 1) ZN rfl rfl 30 ZN HR.out info_n rfl ZN_one ?_))
  refine fin_ct (w.heap.size + 1) 30 ZN (.int .i64 1) (by rfl) (by rfl) (by rfl) (by rfl) Try.underlying30 (by rfl) info_n (ArrKit.Bk.row HR.out _) ?_
  exact ⟨rfl, ArrKit.Fr.row HF.out _ _ (.inl (by omega))⟩

set_option maxHeartbeats 2000000 in
set_option maxRecDepth 100000 in
theorem take_zero (bl : List UInt8) (X : Array Value) (hX : (bl.map B).toArray = X) (hbl : bl.length = 64) (n : Int) (w : World) (h1 : 1 ≤ n) (h2 : n ≤ 64) (hza : allZ bl = true) : Calls Try.prog 8 #[.agg X, .int .i64 n] w fun e w' => e = .returned (.tuple #[.agg ZN, .int .i64 4]) ∧ Fr0 w w' := by
  have c0 : decide (n < 1) = false := decide_eq_false (by omega)
  have c1 : decide (64 < n) = false := decide_eq_false (by omega)
  have hxx : (bl.map B).toArray = X := hX
  have HRD : Hid (∀ W : World, Bk W w.heap.size X 22 → Rd W (some ⟨w.heap.size, 0, none⟩) bl) := Lib.hid (fun W h => Rd.block h (fun i hi => by rw [Nat.zero_add, ← hxx]; simp [hi]))
  have HZC : Hid (∀ W : World, Bk W w.heap.size X 22 → Calls Try.prog 18 #[.slice (some ⟨w.heap.size, 0, none⟩) 64 64] W fun e w' => e = .returned (.bool true) ∧ W = w') := Lib.hid (fun W h => by
    have := zero_calls (some ⟨w.heap.size, 0, none⟩) 64 64 bl W hbl (HRD.out W h) (by omega) (by omega) (by omega)
    rw [hza] at this
    exact this)
  have hs1 : (w.alloc (.cells X 22)).heap.size = w.heap.size + 1 := by simp
  have HX : Hid (Bk ((w.alloc (.cells X 22)).alloc (.cells ZN 30)) w.heap.size X 22) := Lib.hid (Bk.alloc (Bk.new w _) _)
  have HR : Hid (Bk ((w.alloc (.cells X 22)).alloc (.cells ZN 30)) (w.heap.size + 1) ZN 30) := Lib.hid (by have := Bk.new (w.alloc (.cells X 22)) (.cells ZN 30); rwa [hs1] at this)
  have HF : Hid (Fr0 w ((w.alloc (.cells X 22)).alloc (.cells ZN 30))) := Lib.hid (Fr.alloc (Fr.alloc (Fr.refl _ _) _) _)
  have hz : ∀ W, (zeroValue 30).run Try.prog W = .ok (.agg ZN) W := by intro W; kernel_rfl
  have hzb : ∀ W, (zeroValue 22).run Try.prog W = .ok (.agg ZB) W := by intro W; kernel_rfl
  clear hs1
  clear hxx hX hbl hza
  go_enter Try.func8, Try.ntmps8
  go_wp2_with (first | (go_at_call 18; first | ((with_reducible refine (HZC.out _ HX.out).mono ?_); rintro e w1 ⟨rfl, rfl⟩)) | ((with_reducible show wpList _ _ _ ({ dst := _, op := Op.build 30 #[], type := _, pos := _, after := _, guard := _ } :: _) _ _); refine PtrAsk.build_eq rfl 30 _ rfl ZN (by kernel_rfl) ?_) | ((with_reducible show wpList _ _ _ ({ dst := _, op := Op.store 30 _ _, type := _, pos := _, after := _, guard := _ } :: _) _ _); refine wpList_store_row rfl 30 _ _ rfl (w.heap.size + 1) ZN rfl rfl 30 ZN HR.out info_n rfl ZN_one ?_))
  refine fin_ct (w.heap.size + 1) 30 ZN (.int .i64 4) (by rfl) (by rfl) (by rfl) (by rfl) Try.underlying30 (by rfl) info_n (ArrKit.Bk.row HR.out _) ?_
  exact ⟨rfl, ArrKit.Fr.row HF.out _ _ (.inl (by omega))⟩

set_option maxHeartbeats 2000000 in
set_option maxRecDepth 100000 in
theorem take_bad (bl : List UInt8) (X : Array Value) (hX : (bl.map B).toArray = X) (hbl : bl.length = 64) (n : Int) (w : World) (h1 : 1 ≤ n) (h2 : n ≤ 64) (hza : allZ bl = false) (htk : tkR (prt bl) = false) : Calls Try.prog 8 #[.agg X, .int .i64 n] w fun e w' => e = .returned (.tuple #[.agg ZN, .int .i64 15]) ∧ Fr0 w w' := by
  have c0 : decide (n < 1) = false := decide_eq_false (by omega)
  have c1 : decide (64 < n) = false := decide_eq_false (by omega)
  have hxx : (bl.map B).toArray = X := hX
  have HRD : Hid (∀ W : World, Bk W w.heap.size X 22 → Rd W (some ⟨w.heap.size, 0, none⟩) bl) := Lib.hid (fun W h => Rd.block h (fun i hi => by rw [Nat.zero_add, ← hxx]; simp [hi]))
  have HZC : Hid (∀ W : World, Bk W w.heap.size X 22 → Calls Try.prog 18 #[.slice (some ⟨w.heap.size, 0, none⟩) 64 64] W fun e w' => e = .returned (.bool false) ∧ W = w') := Lib.hid (fun W h => by
    have := zero_calls (some ⟨w.heap.size, 0, none⟩) 64 64 bl W hbl (HRD.out W h) (by omega) (by omega) (by omega)
    rw [hza] at this
    exact this)
  have HPT : Hid (∀ W : World, Bk W w.heap.size X 22 → Calls Try.prog 19 #[.slice (some ⟨w.heap.size, 0, none⟩) 64 64, .int .i64 8] W fun e w' => e = .returned (.tuple #[.agg ZERO, .int .i64 15]) ∧ Fr0 W w') := Lib.hid (fun W h => by
    have := take_some w.heap.size 0 64 64 8 (prt bl) W (prt_length hbl) ((HRD.out W h).sub 8 40) (by omega) (by omega) (by omega) (by omega)
    rw [tkV, htk] at this
    exact this)
  have hs1 : (w.alloc (.cells X 22)).heap.size = w.heap.size + 1 := by simp
  have HX : Hid (Bk ((w.alloc (.cells X 22)).alloc (.cells ZN 30)) w.heap.size X 22) := Lib.hid (Bk.alloc (Bk.new w _) _)
  have HR : Hid (Bk ((w.alloc (.cells X 22)).alloc (.cells ZN 30)) (w.heap.size + 1) ZN 30) := Lib.hid (by have := Bk.new (w.alloc (.cells X 22)) (.cells ZN 30); rwa [hs1] at this)
  have HF : Hid (Fr0 w ((w.alloc (.cells X 22)).alloc (.cells ZN 30))) := Lib.hid (Fr.alloc (Fr.alloc (Fr.refl _ _) _) _)
  have hz : ∀ W, (zeroValue 30).run Try.prog W = .ok (.agg ZN) W := by intro W; kernel_rfl
  have hzb : ∀ W, (zeroValue 22).run Try.prog W = .ok (.agg ZB) W := by intro W; kernel_rfl
  clear hs1
  clear hxx hX hbl hza htk
  go_enter Try.func8, Try.ntmps8
  go_wp2_with (first | (go_at_call 18; first | ((with_reducible refine (HZC.out _ HX.out).mono ?_); rintro e w1 ⟨rfl, rfl⟩)) | (go_at_call 19; (with_reducible refine (HPT.out _ HX.out).mono ?_); rintro e w2 ⟨rfl, hf2⟩; have HX2 := Lib.hid (hf2.keep HX.out (fun h => h)); have HR2 := Lib.hid (hf2.keep HR.out (fun h => h)); have HF2 := Lib.hid (HF.out.then0 hf2); have HZ2 : Hid (Bk (w2.alloc (.cells ZERO 26)) w2.heap.size ZERO 26) := Lib.hid (Bk.new _ _); clear hf2) | ((with_reducible show wpList _ _ _ ({ dst := _, op := Op.store 26 _ _, type := _, pos := _, after := _, guard := _ } :: _) _ _); refine wpList_store_row rfl 26 _ _ rfl w2.heap.size ZERO rfl rfl 26 ZERO HZ2.out info_p rfl ZERO_one ?_; change wpList _ _ _ _ _ ((w2.alloc (.cells ZERO 26)).setRow w2.heap.size ZERO); have hfx : Fr0 w2 ((w2.alloc (.cells ZERO 26)).setRow w2.heap.size ZERO) := ArrKit.Fr.row (Fr.alloc (Fr.refl _ _) _) _ _ (.inl (Nat.le_refl _)); have HP3 : Hid (Bk ((w2.alloc (.cells ZERO 26)).setRow w2.heap.size ZERO) w2.heap.size ZERO 26) := Lib.hid (ArrKit.Bk.row HZ2.out _); have HX3 := Lib.hid (hfx.keep HX2.out (fun h => h)); have HR3 := Lib.hid (hfx.keep HR2.out (fun h => h)); have HF3 := Lib.hid (HF2.out.then0 hfx); clear hfx; generalize ((w2.alloc (.cells ZERO 26)).setRow w2.heap.size ZERO) = w3 at *; generalize w2.heap.size = J at *) | ((with_reducible show wpList _ _ _ ({ dst := _, op := Op.build 30 #[], type := _, pos := _, after := _, guard := _ } :: _) _ _); refine PtrAsk.build_eq rfl 30 _ rfl ZN (by kernel_rfl) ?_) | ((with_reducible show wpList _ _ _ ({ dst := _, op := Op.store 30 _ _, type := _, pos := _, after := _, guard := _ } :: _) _ _); refine wpList_store_row rfl 30 _ _ rfl (w.heap.size + 1) ZN rfl rfl 30 ZN HR3.out info_n rfl ZN_one ?_))
  refine fin_ct (w.heap.size + 1) 30 ZN (.int .i64 15) (by rfl) (by rfl) (by rfl) (by rfl) Try.underlying30 (by rfl) info_n (ArrKit.Bk.row HR3.out _) ?_
  exact ⟨rfl, ArrKit.Fr.row HF3.out _ _ (.inl (by omega))⟩

def stm (v : V3) (z c : Int) : List Value := v.pc ++ [.int .i64 z, .int .i64 c]
theorem built_n3 (n : Int) (y0 y1 : Nat) : Try.prog.built 30 [(0, .int .i64 n), (1, .int .i64 (y0 : Int)), (2, .int .i64 (y1 : Int))] = some (NV.cells ⟨n, (y0 : Int), (y1 : Int), ⟨0, 0, Z⟩, 0, 0⟩).toArray := by
  show _ = _
  kernel_rfl
theorem built_s3 (v : V3) (hv : v.ok) (z c : Int) : Try.prog.built 28 [(0, .agg v.pc.toArray), (1, .int .i64 z), (2, .int .i64 c)] = some (stm v z c).toArray := by
  obtain ⟨a, b, s⟩ := v
  have hs : s.length = 32 := hv.len
  clear hv
  match s, hs with
  | [s0, s1, s2, s3, s4, s5, s6, s7, s8, s9, s10, s11, s12, s13, s14, s15, s16, s17, s18, s19, s20, s21, s22, s23, s24, s25, s26, s27, s28, s29, s30, s31], _ => (show _ = _; kernel_rfl)
theorem lay_stem (x : NV) (h : x.ok) : lay (NV.cells ⟨x.num, x.kind, x.links, ⟨0, 0, Z⟩, 0, 0⟩).toArray 3 (stm x.root x.size x.cps) = x.cells.toArray := by
  have hl : (stm x.root x.size x.cps).length = 36 := by simp [stm, pc_length h.root]
  have h39 : (NV.cells ⟨x.num, x.kind, x.links, ⟨0, 0, Z⟩, 0, 0⟩).toArray.size = 39 := by rw [List.size_toArray]; exact NV.cells_length ⟨⟨Z_len, (by show (Lit.int .i64 0).wf = true; decide), (by show (Lit.int .i64 0).wf = true; decide)⟩, h.wn, h.wk, h.wl, by show (Lit.int .i64 0).wf = true; decide, by show (Lit.int .i64 0).wf = true; decide⟩
  apply Array.ext_getElem?
  intro i
  rw [lay_get, hl, h39]
  rcases (show i = 0 ∨ i = 1 ∨ i = 2 ∨ (3 ≤ i ∧ i < 39) ∨ 39 ≤ i by omega) with rfl | rfl | rfl | ⟨a, b⟩ | a
  · rfl
  · rfl
  · rfl
  · rw [if_pos ⟨a, by omega, b⟩, List.getElem?_toArray, NV.cells]
    obtain ⟨j, rfl⟩ : ∃ j, i = j + 3 := ⟨i - 3, by omega⟩
    simp [stm]
  · rw [if_neg (by omega), Array.getElem?_eq_none (by omega), Array.getElem?_eq_none (by rw [List.size_toArray, NV.cells_length h]; omega)]
theorem getB (bl : List UInt8) (i : Nat) (h : i < bl.length) : (bl.map B).toArray[i]? = some (.int .u8 ((bl.getD i 0).toNat : Int)) := by
  rw [List.getElem?_toArray, List.getElem?_map, List.getElem?_eq_getElem h, List.getD_eq_getElem?_getD, List.getElem?_eq_getElem h]
  rfl

set_option maxHeartbeats 2000000 in
set_option maxRecDepth 100000 in
theorem take_err (bl : List UInt8) (X : Array Value) (hX : (bl.map B).toArray = X) (hbl : bl.length = 64) (n : Int) (w : World) (hwn : (Lit.int .i64 n).wf = true) (h1 : 1 ≤ n) (h2 : n ≤ 64) (hza : allZ bl = false) (htk : tkR (prt bl) = true) (hE : ipE (tN bl n) = 1) : Calls Try.prog 8 #[.agg X, .int .i64 n] w fun e w' => e = .returned (.tuple #[.agg ZN, .int .i64 15]) ∧ Fr0 w w' := by
  have c0 : decide (n < 1) = false := decide_eq_false (by omega)
  have c1 : decide (64 < n) = false := decide_eq_false (by omega)
  have hxx : (bl.map B).toArray = X := hX
  have HRD : Hid (∀ W : World, Bk W w.heap.size X 22 → Rd W (some ⟨w.heap.size, 0, none⟩) bl) := Lib.hid (fun W h => Rd.block h (fun i hi => by rw [Nat.zero_add, ← hxx]; simp [hi]))
  have HZC : Hid (∀ W : World, Bk W w.heap.size X 22 → Calls Try.prog 18 #[.slice (some ⟨w.heap.size, 0, none⟩) 64 64] W fun e w' => e = .returned (.bool false) ∧ W = w') := Lib.hid (fun W h => by
    have := zero_calls (some ⟨w.heap.size, 0, none⟩) 64 64 bl W hbl (HRD.out W h) (by omega) (by omega) (by omega)
    rw [hza] at this
    exact this)
  have HPT : Hid (∀ W : World, Bk W w.heap.size X 22 → Calls Try.prog 19 #[.slice (some ⟨w.heap.size, 0, none⟩) 64 64, .int .i64 8] W fun e w' => e = .returned (.tuple #[.agg (tN bl n).root.pc.toArray, .int .i64 0]) ∧ Fr0 W w') := Lib.hid (fun W h => by
    have := take_some w.heap.size 0 64 64 8 (prt bl) W (prt_length hbl) ((HRD.out W h).sub 8 40) (by omega) (by omega) (by omega) (by omega)
    rw [tkV, htk] at this
    exact this)
  have HWT : Hid (∀ W : World, Bk W w.heap.size X 22 → Calls Try.prog 20 #[.slice (some ⟨w.heap.size, 0, none⟩) 64 64, .int .i64 4, .int .i64 4] W fun e w' => e = .returned (.tuple #[.int .i64 (szt bl : Int), .int .i64 0]) ∧ W = w') := Lib.hid (fun W h =>
    take_ok w.heap.size 0 64 64 4 4 bl W hbl (HRD.out W h) (by omega) (by omega) (by omega) (by omega) (by omega) (by omega) (by have := num4 ((bl.drop 4).take 4) (by rw [List.length_take]; omega); omega))
  have hok := tN_ok hbl hwn
  have HIP : Hid ((Try.prog.info? 26).map (·.size) = some (tN bl n).root.pc.toArray.size) := Lib.hid (by rw [info_p, List.size_toArray, pc_length hok.root])
  have HZP : Hid (ZERO.size = (tN bl n).root.pc.toArray.size) := Lib.hid ((show ZERO.size = 34 from rfl).trans (by rw [List.size_toArray, pc_length hok.root]))
  have HOP : Hid ((tN bl n).root.pc.toArray.all (·.oneCell') = true) := Lib.hid (by simp [V3.pc, PC, B, Value.oneCell'])
  have HB0 : Hid (X[0]? = some (.int .u8 ((bl.getD 0 0).toNat : Int))) := Lib.hid (by rw [← hxx]; exact getB bl 0 (by omega))
  have HB1 : Hid (X[1]? = some (.int .u8 ((bl.getD 1 0).toNat : Int))) := Lib.hid (by rw [← hxx]; exact getB bl 1 (by omega))
  have HB2 : Hid (X[2]? = some (.int .u8 ((bl.getD 2 0).toNat : Int))) := Lib.hid (by rw [← hxx]; exact getB bl 2 (by omega))
  have HOK := Lib.hid hok
  have HXX := Lib.hid hxx
  have HBL := Lib.hid hbl
  have hv0 : (bl.getD 0 0).toNat < 256 := (bl.getD 0 0).toNat_lt
  have hv1 : (bl.getD 1 0).toNat < 256 := (bl.getD 1 0).toNat_lt
  have hv2 : (bl.getD 2 0).toNat < 256 := (bl.getD 2 0).toNat_lt
  have HPU : Hid (∀ W : World, Calls Try.prog 12 #[.agg (tN bl n).cells.toArray] W fun e w' => e = .returned (.tuple #[.agg ((ipX (tN bl n)).map B).toArray, .int .i64 (ipE (tN bl n))]) ∧ Fr0 W w') := Lib.hid (fun W => put_calls (tN bl n) W hok)
  have HBT := Lib.hid (built_n3 n (bl.getD 0 0).toNat (bl.getD 1 0).toNat)
  have HBS := Lib.hid (built_s3 (tN bl n).root hok.root (szt bl : Int) ((bl.getD 2 0).toNat : Int))
  have HLC : Hid (lay (NV.cells ⟨n, ((bl.getD 0 0).toNat : Int), ((bl.getD 1 0).toNat : Int), ⟨0, 0, Z⟩, 0, 0⟩).toArray 3 (stm (tN bl n).root (szt bl : Int) ((bl.getD 2 0).toNat : Int)) = (tN bl n).cells.toArray) := Lib.hid (lay_stem (tN bl n) hok)
  have HSL : Hid ((stm (tN bl n).root (szt bl : Int) ((bl.getD 2 0).toNat : Int)).length = 36) := Lib.hid (by simp [stm, pc_length hok.root])
  have HIT : Hid ((Try.prog.info? 30).map (·.size) = some (tN bl n).cells.toArray.size) := Lib.hid (by rw [info_n, List.size_toArray, NV.cells_length hok])
  have HZT : Hid (ZN.size = (tN bl n).cells.toArray.size) := Lib.hid (ZN_size.trans (by rw [List.size_toArray, NV.cells_length hok]))
  have HOT : Hid ((tN bl n).cells.toArray.all (·.oneCell') = true) := Lib.hid cells_one
  have HOS : Hid ((stm (tN bl n).root (szt bl : Int) ((bl.getD 2 0).toNat : Int)).toArray.all (·.oneCell') = true) := Lib.hid (by simp [stm, V3.pc, PC, B, Value.oneCell'])
  have HIS : Hid ((Try.prog.info? 28).map (·.size) = some (stm (tN bl n).root (szt bl : Int) ((bl.getD 2 0).toNat : Int)).toArray.size) := Lib.hid (by rw [info_s, List.size_toArray]; exact congrArg some HSL.out.symm)
  have hpl := ipX_length hok
  have HIRB : Hid ((Try.prog.info? 22).map (·.size) = some ((ipX (tN bl n)).map B).toArray.size) := Lib.hid (by rw [infoB, List.size_toArray, List.length_map, hpl])
  have HZRB : Hid (ZB.size = ((ipX (tN bl n)).map B).toArray.size) := Lib.hid ((show ZB.size = 64 by simp [ZB, Z64]).trans (by rw [List.size_toArray, List.length_map, hpl]))
  have HORB : Hid (((ipX (tN bl n)).map B).toArray.all (·.oneCell') = true) := Lib.hid (by simp [B, Value.oneCell'])
  have heqb : ∀ W, (Op.equalIn 10000 22 (.agg ((ipX (tN bl n)).map B).toArray) (.agg X)).run Try.prog W = .ok (decide (ipX (tN bl n) = bl)) W := fun W => by
    rw [← hxx]
    exact eq_bytes (P := Try.prog) Try.underlying22 Try.underlying5 (by kernel_rfl) (by kernel_rfl) (by kernel_rfl) (ipX (tN bl n)) bl hpl hbl W
  have HIXB : Hid ((Try.prog.info? 22).map (·.size) = some X.size) := Lib.hid (by rw [← hxx, infoB, List.size_toArray, List.length_map, hbl])
  rw [hE] at HPU
  clear heqb HIXB
  generalize ((ipX (tN bl n)).map B).toArray = RB at *
  have hs1 : (w.alloc (.cells X 22)).heap.size = w.heap.size + 1 := by simp
  have HX : Hid (Bk ((w.alloc (.cells X 22)).alloc (.cells ZN 30)) w.heap.size X 22) := Lib.hid (Bk.alloc (Bk.new w _) _)
  have HR : Hid (Bk ((w.alloc (.cells X 22)).alloc (.cells ZN 30)) (w.heap.size + 1) ZN 30) := Lib.hid (by have := Bk.new (w.alloc (.cells X 22)) (.cells ZN 30); rwa [hs1] at this)
  have HF : Hid (Fr0 w ((w.alloc (.cells X 22)).alloc (.cells ZN 30))) := Lib.hid (Fr.alloc (Fr.alloc (Fr.refl _ _) _) _)
  have hz : ∀ W, (zeroValue 30).run Try.prog W = .ok (.agg ZN) W := by intro W; kernel_rfl
  have hzb : ∀ W, (zeroValue 22).run Try.prog W = .ok (.agg ZB) W := by intro W; kernel_rfl
  clear hs1
  clear hxx hX hbl hza htk hok hwn hE hpl
  generalize (bl.getD 0 0).toNat = y0 at *
  generalize (bl.getD 1 0).toNat = y1 at *
  generalize (bl.getD 2 0).toNat = y2 at *
  generalize hsl : stm (tN bl n).root (szt bl : Int) ((y2 : Nat) : Int) = SL at *
  clear hsl
  generalize (tN bl n).root.pc.toArray = RP at *
  generalize hxc : (tN bl n).cells.toArray = XC at *
  clear hxc
  generalize hx1 : (NV.cells ⟨n, ((y0 : Nat) : Int), ((y1 : Nat) : Int), ⟨0, 0, Z⟩, 0, 0⟩).toArray = X1 at *
  have HI1 : Hid ((Try.prog.info? 30).map (·.size) = some X1.size) := Lib.hid (by rw [← hx1, info_n]; kernel_rfl)
  have HZ1 : Hid (ZN.size = X1.size) := Lib.hid (by rw [← hx1]; kernel_rfl)
  have HO1 : Hid (X1.all (·.oneCell') = true) := Lib.hid (by rw [← hx1]; exact cells_one)
  clear hx1
  generalize szt bl = sz at *
  go_enter Try.func8, Try.ntmps8
  go_wp2_with (first | (go_at_call 18; first | ((with_reducible refine (HZC.out _ HX.out).mono ?_); rintro e w1 ⟨rfl, rfl⟩)) | (go_at_call 19; (with_reducible refine (HPT.out _ HX.out).mono ?_); rintro e w2 ⟨rfl, hf2⟩; have HX2 := Lib.hid (hf2.keep HX.out (fun h => h)); have HR2 := Lib.hid (hf2.keep HR.out (fun h => h)); have HF2 := Lib.hid (HF.out.then0 hf2); have HZ2 : Hid (Bk (w2.alloc (.cells ZERO 26)) w2.heap.size ZERO 26) := Lib.hid (Bk.new _ _); clear hf2) | ((with_reducible show wpList _ _ _ ({ dst := _, op := Op.store 26 _ _, type := _, pos := _, after := _, guard := _ } :: _) _ _); refine wpList_store_row rfl 26 _ _ rfl w2.heap.size RP rfl rfl 26 ZERO HZ2.out HIP.out HZP.out HOP.out ?_; change wpList _ _ _ _ _ ((w2.alloc (.cells ZERO 26)).setRow w2.heap.size RP); have hfx : Fr0 w2 ((w2.alloc (.cells ZERO 26)).setRow w2.heap.size RP) := ArrKit.Fr.row (Fr.alloc (Fr.refl _ _) _) _ _ (.inl (Nat.le_refl _)); have HP3 : Hid (Bk ((w2.alloc (.cells ZERO 26)).setRow w2.heap.size RP) w2.heap.size RP 26) := Lib.hid (ArrKit.Bk.row HZ2.out _); have HX3 := Lib.hid (hfx.keep HX2.out (fun h => h)); have HR3 := Lib.hid (hfx.keep HR2.out (fun h => h)); have HF3 := Lib.hid (HF2.out.then0 hfx); have q0 := (Bk.cell HX3.out 0).trans HB0.out; have q1 := (Bk.cell HX3.out 1).trans HB1.out; clear hfx; generalize ((w2.alloc (.cells ZERO 26)).setRow w2.heap.size RP) = w3 at *; generalize w2.heap.size = J at *; have HN3 : Hid (Bk (w3.alloc (.cells ZN 30)) w3.heap.size ZN 30) := Lib.hid (Bk.new _ _)) | (go_at_call 20; (with_reducible refine (HWT.out _ HX3.out).mono ?_); rintro e w4 ⟨rfl, rfl⟩) | ((with_reducible show wpList _ _ _ ({ dst := _, op := Op.build 30 #[], type := _, pos := _, after := _, guard := _ } :: _) _ _); refine PtrAsk.build_eq rfl 30 _ rfl ZN (by kernel_rfl) ?_) | ((with_reducible show wpList _ _ _ ({ dst := _, op := Op.store 30 _ _, type := _, pos := _, after := _, guard := _ } :: _) _ _); refine wpList_store_row rfl 30 _ _ rfl (w.heap.size + 1) ZN rfl rfl 30 ZN HR8.out info_n rfl ZN_one ?_) | ((with_reducible show wpList _ _ _ ({ dst := _, op := Op.build 30 _, type := _, pos := _, after := _, guard := _ } :: _) _ _); refine PtrROf.build_ev rfl 30 _ rfl [(0, .int .i64 n), (1, .int .i64 (y0 : Int)), (2, .int .i64 (y1 : Int))] (by simp [Act.eval, Act.put]) X1 HBT.out ?_) | ((with_reducible show wpList _ _ _ ({ dst := _, op := Op.store 30 _ _, type := _, pos := _, after := _, guard := _ } :: _) _ _); refine wpList_store_row rfl 30 _ _ rfl w3.heap.size X1 rfl rfl 30 ZN HN3.out HI1.out HZ1.out HO1.out ?_; change wpList _ _ _ _ _ ((w3.alloc (.cells ZN 30)).setRow w3.heap.size X1); have HK5 : Hid (Bk ((w3.alloc (.cells ZN 30)).setRow w3.heap.size X1) w3.heap.size X1 30) := Lib.hid (ArrKit.Bk.row HN3.out _); have hfy : Fr0 w3 ((w3.alloc (.cells ZN 30)).setRow w3.heap.size X1) := ArrKit.Fr.row (Fr.alloc (Fr.refl _ _) _) _ _ (.inl (Nat.le_refl _)); have HX5 := Lib.hid (hfy.keep HX3.out (fun h => h)); have HR5 := Lib.hid (hfy.keep HR3.out (fun h => h)); have HP5 := Lib.hid (hfy.keep HP3.out (fun h => h)); have HF5 := Lib.hid (HF3.out.then0 hfy); have q2 := (Bk.cell HX5.out 2).trans HB2.out; have hK1 : w.heap.size < w3.heap.size := Bk.lt HX3.out; have hK2 : w.heap.size + 1 < w3.heap.size := Bk.lt HR3.out; clear hfy q0 q1; generalize ((w3.alloc (.cells ZN 30)).setRow w3.heap.size X1) = w5 at *; generalize w3.heap.size = K at *) | ((with_reducible show wpList _ _ _ ({ dst := _, op := Op.load 26 _, type := _, pos := _, after := _, guard := _ } :: _) _ _); refine wpList_load_row rfl 26 _ rfl J rfl 26 RP (0, 0) _ HP5.out Try.underlying26 rfl HIP.out ?_) | ((with_reducible show wpList _ _ _ ({ dst := _, op := Op.build 28 _, type := _, pos := _, after := _, guard := _ } :: _) _ _); refine PtrROf.build_ev rfl 28 _ rfl [(0, .agg RP), (1, .int .i64 (sz : Int)), (2, .int .i64 (y2 : Int))] (by simp [Act.eval, Act.put]) SL.toArray HBS.out ?_) | ((with_reducible show wpList _ _ _ ({ dst := _, op := Op.store 28 _ _, type := _, pos := _, after := _, guard := _ } :: _) _ _); refine wpList_store_mid rfl 28 _ _ rfl K 3 SL.toArray rfl rfl (fun j hj => ⟨by rw [Bk.cell HK5.out, Array.getElem?_eq_getElem (by have := HZ1.out; rw [ZN_size] at this; rw [List.size_toArray, HSL.out] at hj; omega)]; rfl, Bk.free HK5.out _⟩) HIS.out HOS.out ?_; change wpList _ _ _ _ _ (w5.setCells K 3 SL.toArray.toList); have HK6 : Hid (Bk (w5.setCells K 3 SL.toArray.toList) K XC 30) := Lib.hid (by have := sets_bk SL.toArray.toList 3 _ _ HK5.out; rw [show SL.toArray.toList = SL by simp, HLC.out] at this; simpa using this); have HX6 : Hid (Bk (w5.setCells K 3 SL.toArray.toList) w.heap.size X 22) := Lib.hid ((sets_fr SL.toArray.toList 3 _ (Fr.refl (fun i => i = K) w5)).keep HX5.out (Nat.ne_of_lt hK1)); have HR6 : Hid (Bk (w5.setCells K 3 SL.toArray.toList) (w.heap.size + 1) ZN 30) := Lib.hid ((sets_fr SL.toArray.toList 3 _ (Fr.refl (fun i => i = K) w5)).keep HR5.out (Nat.ne_of_lt hK2)); have HF6 : Hid (Fr0 w (w5.setCells K 3 SL.toArray.toList)) := Lib.hid (HF5.out.then (sets_fr SL.toArray.toList 3 _ (Fr.refl (fun i => i = K) w5)) (fun i hi e => by omega)); clear q2; generalize (w5.setCells K 3 SL.toArray.toList) = w6 at *) | ((with_reducible show wpList _ _ _ ({ dst := _, op := Op.load 30 _, type := _, pos := _, after := _, guard := _ } :: _) _ _); refine wpList_load_row rfl 30 _ rfl K rfl 30 XC (0, 0) _ HK6.out Try.underlying30 rfl HIT.out ?_) | (go_at_call 12; (with_reducible refine (HPU.out _).mono ?_); rintro e w7 ⟨rfl, hf7⟩; have HK7 := Lib.hid (hf7.keep HK6.out (fun h => h)); have HX7 := Lib.hid (hf7.keep HX6.out (fun h => h)); have HR7 := Lib.hid (hf7.keep HR6.out (fun h => h)); have HF7 := Lib.hid (HF6.out.then0 hf7); have HN7 : Hid (Bk (w7.alloc (.cells ZB 22)) w7.heap.size ZB 22) := Lib.hid (Bk.new _ _); clear hf7) | ((with_reducible show wpList _ _ _ ({ dst := _, op := Op.store 22 _ _, type := _, pos := _, after := _, guard := _ } :: _) _ _); refine wpList_store_row rfl 22 _ _ rfl w7.heap.size RB rfl rfl 22 ZB HN7.out HIRB.out HZRB.out HORB.out ?_; change wpList _ _ _ _ _ ((w7.alloc (.cells ZB 22)).setRow w7.heap.size RB); have HL8 : Hid (Bk ((w7.alloc (.cells ZB 22)).setRow w7.heap.size RB) w7.heap.size RB 22) := Lib.hid (ArrKit.Bk.row HN7.out _); have hfz : Fr0 w7 ((w7.alloc (.cells ZB 22)).setRow w7.heap.size RB) := ArrKit.Fr.row (Fr.alloc (Fr.refl _ _) _) _ _ (.inl (Nat.le_refl _)); have HK8 := Lib.hid (hfz.keep HK7.out (fun h => h)); have HX8 := Lib.hid (hfz.keep HX7.out (fun h => h)); have HR8 := Lib.hid (hfz.keep HR7.out (fun h => h)); have HF8 := Lib.hid (HF7.out.then0 hfz); clear hfz; generalize ((w7.alloc (.cells ZB 22)).setRow w7.heap.size RB) = w8 at *; generalize w7.heap.size = L at *) | ((with_reducible show wpList _ _ _ ({ dst := _, op := Op.load 22 _, type := _, pos := _, after := _, guard := _ } :: _) _ _); refine wpList_load_row_g (by rfl) 22 _ rfl L rfl 22 RB (0, 0) _ HL8.out Try.underlying22 rfl HIRB.out ?_) | ((with_reducible show wpList _ _ _ ({ dst := _, op := Op.load 22 _, type := _, pos := _, after := _, guard := _ } :: _) _ _); refine wpList_load_row_g (by rfl) 22 _ rfl w.heap.size rfl 22 X (0, 0) _ HX8.out Try.underlying22 rfl HIXB.out ?_) | ((with_reducible show wpList _ _ _ ({ dst := _, op := Op.load 30 _, type := _, pos := _, after := _, guard := _ } :: _) _ _); refine wpList_load_row rfl 30 _ rfl K rfl 30 XC (0, 0) _ HK8.out Try.underlying30 rfl HIT.out ?_) | ((with_reducible show wpList _ _ _ ({ dst := _, op := Op.store 30 _ _, type := _, pos := _, after := _, guard := _ } :: _) _ _); refine wpList_store_row rfl 30 _ _ rfl (w.heap.size + 1) XC rfl rfl 30 ZN HR8.out HIT.out HZT.out HOT.out ?_))
  refine fin_ct (w.heap.size + 1) 30 ZN (.int .i64 15) (by rfl) (by rfl) (by rfl) (by rfl) Try.underlying30 (by rfl) info_n (ArrKit.Bk.row HR8.out _) ?_
  exact ⟨rfl, ArrKit.Fr.row HF8.out _ _ (.inl (by omega))⟩

set_option maxHeartbeats 2000000 in
set_option maxRecDepth 100000 in
theorem take_ne (bl : List UInt8) (X : Array Value) (hX : (bl.map B).toArray = X) (hbl : bl.length = 64) (n : Int) (w : World) (hwn : (Lit.int .i64 n).wf = true) (h1 : 1 ≤ n) (h2 : n ≤ 64) (hza : allZ bl = false) (htk : tkR (prt bl) = true) (hE : ipE (tN bl n) = 0) (hD : decide (ipX (tN bl n) = bl) = false) : Calls Try.prog 8 #[.agg X, .int .i64 n] w fun e w' => e = .returned (.tuple #[.agg ZN, .int .i64 15]) ∧ Fr0 w w' := by
  have c0 : decide (n < 1) = false := decide_eq_false (by omega)
  have c1 : decide (64 < n) = false := decide_eq_false (by omega)
  have hxx : (bl.map B).toArray = X := hX
  have HRD : Hid (∀ W : World, Bk W w.heap.size X 22 → Rd W (some ⟨w.heap.size, 0, none⟩) bl) := Lib.hid (fun W h => Rd.block h (fun i hi => by rw [Nat.zero_add, ← hxx]; simp [hi]))
  have HZC : Hid (∀ W : World, Bk W w.heap.size X 22 → Calls Try.prog 18 #[.slice (some ⟨w.heap.size, 0, none⟩) 64 64] W fun e w' => e = .returned (.bool false) ∧ W = w') := Lib.hid (fun W h => by
    have := zero_calls (some ⟨w.heap.size, 0, none⟩) 64 64 bl W hbl (HRD.out W h) (by omega) (by omega) (by omega)
    rw [hza] at this
    exact this)
  have HPT : Hid (∀ W : World, Bk W w.heap.size X 22 → Calls Try.prog 19 #[.slice (some ⟨w.heap.size, 0, none⟩) 64 64, .int .i64 8] W fun e w' => e = .returned (.tuple #[.agg (tN bl n).root.pc.toArray, .int .i64 0]) ∧ Fr0 W w') := Lib.hid (fun W h => by
    have := take_some w.heap.size 0 64 64 8 (prt bl) W (prt_length hbl) ((HRD.out W h).sub 8 40) (by omega) (by omega) (by omega) (by omega)
    rw [tkV, htk] at this
    exact this)
  have HWT : Hid (∀ W : World, Bk W w.heap.size X 22 → Calls Try.prog 20 #[.slice (some ⟨w.heap.size, 0, none⟩) 64 64, .int .i64 4, .int .i64 4] W fun e w' => e = .returned (.tuple #[.int .i64 (szt bl : Int), .int .i64 0]) ∧ W = w') := Lib.hid (fun W h =>
    take_ok w.heap.size 0 64 64 4 4 bl W hbl (HRD.out W h) (by omega) (by omega) (by omega) (by omega) (by omega) (by omega) (by have := num4 ((bl.drop 4).take 4) (by rw [List.length_take]; omega); omega))
  have hok := tN_ok hbl hwn
  have HIP : Hid ((Try.prog.info? 26).map (·.size) = some (tN bl n).root.pc.toArray.size) := Lib.hid (by rw [info_p, List.size_toArray, pc_length hok.root])
  have HZP : Hid (ZERO.size = (tN bl n).root.pc.toArray.size) := Lib.hid ((show ZERO.size = 34 from rfl).trans (by rw [List.size_toArray, pc_length hok.root]))
  have HOP : Hid ((tN bl n).root.pc.toArray.all (·.oneCell') = true) := Lib.hid (by simp [V3.pc, PC, B, Value.oneCell'])
  have HB0 : Hid (X[0]? = some (.int .u8 ((bl.getD 0 0).toNat : Int))) := Lib.hid (by rw [← hxx]; exact getB bl 0 (by omega))
  have HB1 : Hid (X[1]? = some (.int .u8 ((bl.getD 1 0).toNat : Int))) := Lib.hid (by rw [← hxx]; exact getB bl 1 (by omega))
  have HB2 : Hid (X[2]? = some (.int .u8 ((bl.getD 2 0).toNat : Int))) := Lib.hid (by rw [← hxx]; exact getB bl 2 (by omega))
  have HOK := Lib.hid hok
  have HXX := Lib.hid hxx
  have HBL := Lib.hid hbl
  have hv0 : (bl.getD 0 0).toNat < 256 := (bl.getD 0 0).toNat_lt
  have hv1 : (bl.getD 1 0).toNat < 256 := (bl.getD 1 0).toNat_lt
  have hv2 : (bl.getD 2 0).toNat < 256 := (bl.getD 2 0).toNat_lt
  have HPU : Hid (∀ W : World, Calls Try.prog 12 #[.agg (tN bl n).cells.toArray] W fun e w' => e = .returned (.tuple #[.agg ((ipX (tN bl n)).map B).toArray, .int .i64 (ipE (tN bl n))]) ∧ Fr0 W w') := Lib.hid (fun W => put_calls (tN bl n) W hok)
  have HBT := Lib.hid (built_n3 n (bl.getD 0 0).toNat (bl.getD 1 0).toNat)
  have HBS := Lib.hid (built_s3 (tN bl n).root hok.root (szt bl : Int) ((bl.getD 2 0).toNat : Int))
  have HLC : Hid (lay (NV.cells ⟨n, ((bl.getD 0 0).toNat : Int), ((bl.getD 1 0).toNat : Int), ⟨0, 0, Z⟩, 0, 0⟩).toArray 3 (stm (tN bl n).root (szt bl : Int) ((bl.getD 2 0).toNat : Int)) = (tN bl n).cells.toArray) := Lib.hid (lay_stem (tN bl n) hok)
  have HSL : Hid ((stm (tN bl n).root (szt bl : Int) ((bl.getD 2 0).toNat : Int)).length = 36) := Lib.hid (by simp [stm, pc_length hok.root])
  have HIT : Hid ((Try.prog.info? 30).map (·.size) = some (tN bl n).cells.toArray.size) := Lib.hid (by rw [info_n, List.size_toArray, NV.cells_length hok])
  have HZT : Hid (ZN.size = (tN bl n).cells.toArray.size) := Lib.hid (ZN_size.trans (by rw [List.size_toArray, NV.cells_length hok]))
  have HOT : Hid ((tN bl n).cells.toArray.all (·.oneCell') = true) := Lib.hid cells_one
  have HOS : Hid ((stm (tN bl n).root (szt bl : Int) ((bl.getD 2 0).toNat : Int)).toArray.all (·.oneCell') = true) := Lib.hid (by simp [stm, V3.pc, PC, B, Value.oneCell'])
  have HIS : Hid ((Try.prog.info? 28).map (·.size) = some (stm (tN bl n).root (szt bl : Int) ((bl.getD 2 0).toNat : Int)).toArray.size) := Lib.hid (by rw [info_s, List.size_toArray]; exact congrArg some HSL.out.symm)
  have hpl := ipX_length hok
  have HIRB : Hid ((Try.prog.info? 22).map (·.size) = some ((ipX (tN bl n)).map B).toArray.size) := Lib.hid (by rw [infoB, List.size_toArray, List.length_map, hpl])
  have HZRB : Hid (ZB.size = ((ipX (tN bl n)).map B).toArray.size) := Lib.hid ((show ZB.size = 64 by simp [ZB, Z64]).trans (by rw [List.size_toArray, List.length_map, hpl]))
  have HORB : Hid (((ipX (tN bl n)).map B).toArray.all (·.oneCell') = true) := Lib.hid (by simp [B, Value.oneCell'])
  have heqb : ∀ W, (Op.equalIn 10000 22 (.agg ((ipX (tN bl n)).map B).toArray) (.agg X)).run Try.prog W = .ok (decide (ipX (tN bl n) = bl)) W := fun W => by
    rw [← hxx]
    exact eq_bytes (P := Try.prog) Try.underlying22 Try.underlying5 (by kernel_rfl) (by kernel_rfl) (by kernel_rfl) (ipX (tN bl n)) bl hpl hbl W
  have HIXB : Hid ((Try.prog.info? 22).map (·.size) = some X.size) := Lib.hid (by rw [← hxx, infoB, List.size_toArray, List.length_map, hbl])
  rw [hE] at HPU
  rw [hD] at heqb
  generalize ((ipX (tN bl n)).map B).toArray = RB at *
  have hs1 : (w.alloc (.cells X 22)).heap.size = w.heap.size + 1 := by simp
  have HX : Hid (Bk ((w.alloc (.cells X 22)).alloc (.cells ZN 30)) w.heap.size X 22) := Lib.hid (Bk.alloc (Bk.new w _) _)
  have HR : Hid (Bk ((w.alloc (.cells X 22)).alloc (.cells ZN 30)) (w.heap.size + 1) ZN 30) := Lib.hid (by have := Bk.new (w.alloc (.cells X 22)) (.cells ZN 30); rwa [hs1] at this)
  have HF : Hid (Fr0 w ((w.alloc (.cells X 22)).alloc (.cells ZN 30))) := Lib.hid (Fr.alloc (Fr.alloc (Fr.refl _ _) _) _)
  have hz : ∀ W, (zeroValue 30).run Try.prog W = .ok (.agg ZN) W := by intro W; kernel_rfl
  have hzb : ∀ W, (zeroValue 22).run Try.prog W = .ok (.agg ZB) W := by intro W; kernel_rfl
  clear hs1
  clear hxx hX hbl hza htk hok hwn hE hpl hD
  generalize (bl.getD 0 0).toNat = y0 at *
  generalize (bl.getD 1 0).toNat = y1 at *
  generalize (bl.getD 2 0).toNat = y2 at *
  generalize hsl : stm (tN bl n).root (szt bl : Int) ((y2 : Nat) : Int) = SL at *
  clear hsl
  generalize (tN bl n).root.pc.toArray = RP at *
  generalize hxc : (tN bl n).cells.toArray = XC at *
  clear hxc
  generalize hx1 : (NV.cells ⟨n, ((y0 : Nat) : Int), ((y1 : Nat) : Int), ⟨0, 0, Z⟩, 0, 0⟩).toArray = X1 at *
  have HI1 : Hid ((Try.prog.info? 30).map (·.size) = some X1.size) := Lib.hid (by rw [← hx1, info_n]; kernel_rfl)
  have HZ1 : Hid (ZN.size = X1.size) := Lib.hid (by rw [← hx1]; kernel_rfl)
  have HO1 : Hid (X1.all (·.oneCell') = true) := Lib.hid (by rw [← hx1]; exact cells_one)
  clear hx1
  generalize szt bl = sz at *
  go_enter Try.func8, Try.ntmps8
  go_wp2_with (first | (go_at_call 18; first | ((with_reducible refine (HZC.out _ HX.out).mono ?_); rintro e w1 ⟨rfl, rfl⟩)) | (go_at_call 19; (with_reducible refine (HPT.out _ HX.out).mono ?_); rintro e w2 ⟨rfl, hf2⟩; have HX2 := Lib.hid (hf2.keep HX.out (fun h => h)); have HR2 := Lib.hid (hf2.keep HR.out (fun h => h)); have HF2 := Lib.hid (HF.out.then0 hf2); have HZ2 : Hid (Bk (w2.alloc (.cells ZERO 26)) w2.heap.size ZERO 26) := Lib.hid (Bk.new _ _); clear hf2) | ((with_reducible show wpList _ _ _ ({ dst := _, op := Op.store 26 _ _, type := _, pos := _, after := _, guard := _ } :: _) _ _); refine wpList_store_row rfl 26 _ _ rfl w2.heap.size RP rfl rfl 26 ZERO HZ2.out HIP.out HZP.out HOP.out ?_; change wpList _ _ _ _ _ ((w2.alloc (.cells ZERO 26)).setRow w2.heap.size RP); have hfx : Fr0 w2 ((w2.alloc (.cells ZERO 26)).setRow w2.heap.size RP) := ArrKit.Fr.row (Fr.alloc (Fr.refl _ _) _) _ _ (.inl (Nat.le_refl _)); have HP3 : Hid (Bk ((w2.alloc (.cells ZERO 26)).setRow w2.heap.size RP) w2.heap.size RP 26) := Lib.hid (ArrKit.Bk.row HZ2.out _); have HX3 := Lib.hid (hfx.keep HX2.out (fun h => h)); have HR3 := Lib.hid (hfx.keep HR2.out (fun h => h)); have HF3 := Lib.hid (HF2.out.then0 hfx); have q0 := (Bk.cell HX3.out 0).trans HB0.out; have q1 := (Bk.cell HX3.out 1).trans HB1.out; clear hfx; generalize ((w2.alloc (.cells ZERO 26)).setRow w2.heap.size RP) = w3 at *; generalize w2.heap.size = J at *; have HN3 : Hid (Bk (w3.alloc (.cells ZN 30)) w3.heap.size ZN 30) := Lib.hid (Bk.new _ _)) | (go_at_call 20; (with_reducible refine (HWT.out _ HX3.out).mono ?_); rintro e w4 ⟨rfl, rfl⟩) | ((with_reducible show wpList _ _ _ ({ dst := _, op := Op.build 30 #[], type := _, pos := _, after := _, guard := _ } :: _) _ _); refine PtrAsk.build_eq rfl 30 _ rfl ZN (by kernel_rfl) ?_) | ((with_reducible show wpList _ _ _ ({ dst := _, op := Op.store 30 _ _, type := _, pos := _, after := _, guard := _ } :: _) _ _); refine wpList_store_row rfl 30 _ _ rfl (w.heap.size + 1) ZN rfl rfl 30 ZN HR8.out info_n rfl ZN_one ?_) | ((with_reducible show wpList _ _ _ ({ dst := _, op := Op.build 30 _, type := _, pos := _, after := _, guard := _ } :: _) _ _); refine PtrROf.build_ev rfl 30 _ rfl [(0, .int .i64 n), (1, .int .i64 (y0 : Int)), (2, .int .i64 (y1 : Int))] (by simp [Act.eval, Act.put]) X1 HBT.out ?_) | ((with_reducible show wpList _ _ _ ({ dst := _, op := Op.store 30 _ _, type := _, pos := _, after := _, guard := _ } :: _) _ _); refine wpList_store_row rfl 30 _ _ rfl w3.heap.size X1 rfl rfl 30 ZN HN3.out HI1.out HZ1.out HO1.out ?_; change wpList _ _ _ _ _ ((w3.alloc (.cells ZN 30)).setRow w3.heap.size X1); have HK5 : Hid (Bk ((w3.alloc (.cells ZN 30)).setRow w3.heap.size X1) w3.heap.size X1 30) := Lib.hid (ArrKit.Bk.row HN3.out _); have hfy : Fr0 w3 ((w3.alloc (.cells ZN 30)).setRow w3.heap.size X1) := ArrKit.Fr.row (Fr.alloc (Fr.refl _ _) _) _ _ (.inl (Nat.le_refl _)); have HX5 := Lib.hid (hfy.keep HX3.out (fun h => h)); have HR5 := Lib.hid (hfy.keep HR3.out (fun h => h)); have HP5 := Lib.hid (hfy.keep HP3.out (fun h => h)); have HF5 := Lib.hid (HF3.out.then0 hfy); have q2 := (Bk.cell HX5.out 2).trans HB2.out; have hK1 : w.heap.size < w3.heap.size := Bk.lt HX3.out; have hK2 : w.heap.size + 1 < w3.heap.size := Bk.lt HR3.out; clear hfy q0 q1; generalize ((w3.alloc (.cells ZN 30)).setRow w3.heap.size X1) = w5 at *; generalize w3.heap.size = K at *) | ((with_reducible show wpList _ _ _ ({ dst := _, op := Op.load 26 _, type := _, pos := _, after := _, guard := _ } :: _) _ _); refine wpList_load_row rfl 26 _ rfl J rfl 26 RP (0, 0) _ HP5.out Try.underlying26 rfl HIP.out ?_) | ((with_reducible show wpList _ _ _ ({ dst := _, op := Op.build 28 _, type := _, pos := _, after := _, guard := _ } :: _) _ _); refine PtrROf.build_ev rfl 28 _ rfl [(0, .agg RP), (1, .int .i64 (sz : Int)), (2, .int .i64 (y2 : Int))] (by simp [Act.eval, Act.put]) SL.toArray HBS.out ?_) | ((with_reducible show wpList _ _ _ ({ dst := _, op := Op.store 28 _ _, type := _, pos := _, after := _, guard := _ } :: _) _ _); refine wpList_store_mid rfl 28 _ _ rfl K 3 SL.toArray rfl rfl (fun j hj => ⟨by rw [Bk.cell HK5.out, Array.getElem?_eq_getElem (by have := HZ1.out; rw [ZN_size] at this; rw [List.size_toArray, HSL.out] at hj; omega)]; rfl, Bk.free HK5.out _⟩) HIS.out HOS.out ?_; change wpList _ _ _ _ _ (w5.setCells K 3 SL.toArray.toList); have HK6 : Hid (Bk (w5.setCells K 3 SL.toArray.toList) K XC 30) := Lib.hid (by have := sets_bk SL.toArray.toList 3 _ _ HK5.out; rw [show SL.toArray.toList = SL by simp, HLC.out] at this; simpa using this); have HX6 : Hid (Bk (w5.setCells K 3 SL.toArray.toList) w.heap.size X 22) := Lib.hid ((sets_fr SL.toArray.toList 3 _ (Fr.refl (fun i => i = K) w5)).keep HX5.out (Nat.ne_of_lt hK1)); have HR6 : Hid (Bk (w5.setCells K 3 SL.toArray.toList) (w.heap.size + 1) ZN 30) := Lib.hid ((sets_fr SL.toArray.toList 3 _ (Fr.refl (fun i => i = K) w5)).keep HR5.out (Nat.ne_of_lt hK2)); have HF6 : Hid (Fr0 w (w5.setCells K 3 SL.toArray.toList)) := Lib.hid (HF5.out.then (sets_fr SL.toArray.toList 3 _ (Fr.refl (fun i => i = K) w5)) (fun i hi e => by omega)); clear q2; generalize (w5.setCells K 3 SL.toArray.toList) = w6 at *) | ((with_reducible show wpList _ _ _ ({ dst := _, op := Op.load 30 _, type := _, pos := _, after := _, guard := _ } :: _) _ _); refine wpList_load_row rfl 30 _ rfl K rfl 30 XC (0, 0) _ HK6.out Try.underlying30 rfl HIT.out ?_) | (go_at_call 12; (with_reducible refine (HPU.out _).mono ?_); rintro e w7 ⟨rfl, hf7⟩; have HK7 := Lib.hid (hf7.keep HK6.out (fun h => h)); have HX7 := Lib.hid (hf7.keep HX6.out (fun h => h)); have HR7 := Lib.hid (hf7.keep HR6.out (fun h => h)); have HF7 := Lib.hid (HF6.out.then0 hf7); have HN7 : Hid (Bk (w7.alloc (.cells ZB 22)) w7.heap.size ZB 22) := Lib.hid (Bk.new _ _); clear hf7) | ((with_reducible show wpList _ _ _ ({ dst := _, op := Op.store 22 _ _, type := _, pos := _, after := _, guard := _ } :: _) _ _); refine wpList_store_row rfl 22 _ _ rfl w7.heap.size RB rfl rfl 22 ZB HN7.out HIRB.out HZRB.out HORB.out ?_; change wpList _ _ _ _ _ ((w7.alloc (.cells ZB 22)).setRow w7.heap.size RB); have HL8 : Hid (Bk ((w7.alloc (.cells ZB 22)).setRow w7.heap.size RB) w7.heap.size RB 22) := Lib.hid (ArrKit.Bk.row HN7.out _); have hfz : Fr0 w7 ((w7.alloc (.cells ZB 22)).setRow w7.heap.size RB) := ArrKit.Fr.row (Fr.alloc (Fr.refl _ _) _) _ _ (.inl (Nat.le_refl _)); have HK8 := Lib.hid (hfz.keep HK7.out (fun h => h)); have HX8 := Lib.hid (hfz.keep HX7.out (fun h => h)); have HR8 := Lib.hid (hfz.keep HR7.out (fun h => h)); have HF8 := Lib.hid (HF7.out.then0 hfz); clear hfz; generalize ((w7.alloc (.cells ZB 22)).setRow w7.heap.size RB) = w8 at *; generalize w7.heap.size = L at *) | ((with_reducible show wpList _ _ _ ({ dst := _, op := Op.load 22 _, type := _, pos := _, after := _, guard := _ } :: _) _ _); refine wpList_load_row_g (by rfl) 22 _ rfl L rfl 22 RB (0, 0) _ HL8.out Try.underlying22 rfl HIRB.out ?_) | ((with_reducible show wpList _ _ _ ({ dst := _, op := Op.load 22 _, type := _, pos := _, after := _, guard := _ } :: _) _ _); refine wpList_load_row_g (by rfl) 22 _ rfl w.heap.size rfl 22 X (0, 0) _ HX8.out Try.underlying22 rfl HIXB.out ?_) | ((with_reducible show wpList _ _ _ ({ dst := _, op := Op.load 30 _, type := _, pos := _, after := _, guard := _ } :: _) _ _); refine wpList_load_row rfl 30 _ rfl K rfl 30 XC (0, 0) _ HK8.out Try.underlying30 rfl HIT.out ?_) | ((with_reducible show wpList _ _ _ ({ dst := _, op := Op.store 30 _ _, type := _, pos := _, after := _, guard := _ } :: _) _ _); refine wpList_store_row rfl 30 _ _ rfl (w.heap.size + 1) XC rfl rfl 30 ZN HR8.out HIT.out HZT.out HOT.out ?_))
  refine fin_ct (w.heap.size + 1) 30 ZN (.int .i64 15) (by rfl) (by rfl) (by rfl) (by rfl) Try.underlying30 (by rfl) info_n (ArrKit.Bk.row HR8.out _) ?_
  exact ⟨rfl, ArrKit.Fr.row HF8.out _ _ (.inl (by omega))⟩

set_option maxHeartbeats 2000000 in
set_option maxRecDepth 100000 in
theorem take_good (bl : List UInt8) (X : Array Value) (hX : (bl.map B).toArray = X) (hbl : bl.length = 64) (n : Int) (w : World) (hwn : (Lit.int .i64 n).wf = true) (h1 : 1 ≤ n) (h2 : n ≤ 64) (hza : allZ bl = false) (htk : tkR (prt bl) = true) (hE : ipE (tN bl n) = 0) (hD : decide (ipX (tN bl n) = bl) = true) : Calls Try.prog 8 #[.agg X, .int .i64 n] w fun e w' => e = .returned (.tuple #[.agg (tN bl n).cells.toArray, .int .i64 0]) ∧ Fr0 w w' := by
  have c0 : decide (n < 1) = false := decide_eq_false (by omega)
  have c1 : decide (64 < n) = false := decide_eq_false (by omega)
  have hxx : (bl.map B).toArray = X := hX
  have HRD : Hid (∀ W : World, Bk W w.heap.size X 22 → Rd W (some ⟨w.heap.size, 0, none⟩) bl) := Lib.hid (fun W h => Rd.block h (fun i hi => by rw [Nat.zero_add, ← hxx]; simp [hi]))
  have HZC : Hid (∀ W : World, Bk W w.heap.size X 22 → Calls Try.prog 18 #[.slice (some ⟨w.heap.size, 0, none⟩) 64 64] W fun e w' => e = .returned (.bool false) ∧ W = w') := Lib.hid (fun W h => by
    have := zero_calls (some ⟨w.heap.size, 0, none⟩) 64 64 bl W hbl (HRD.out W h) (by omega) (by omega) (by omega)
    rw [hza] at this
    exact this)
  have HPT : Hid (∀ W : World, Bk W w.heap.size X 22 → Calls Try.prog 19 #[.slice (some ⟨w.heap.size, 0, none⟩) 64 64, .int .i64 8] W fun e w' => e = .returned (.tuple #[.agg (tN bl n).root.pc.toArray, .int .i64 0]) ∧ Fr0 W w') := Lib.hid (fun W h => by
    have := take_some w.heap.size 0 64 64 8 (prt bl) W (prt_length hbl) ((HRD.out W h).sub 8 40) (by omega) (by omega) (by omega) (by omega)
    rw [tkV, htk] at this
    exact this)
  have HWT : Hid (∀ W : World, Bk W w.heap.size X 22 → Calls Try.prog 20 #[.slice (some ⟨w.heap.size, 0, none⟩) 64 64, .int .i64 4, .int .i64 4] W fun e w' => e = .returned (.tuple #[.int .i64 (szt bl : Int), .int .i64 0]) ∧ W = w') := Lib.hid (fun W h =>
    take_ok w.heap.size 0 64 64 4 4 bl W hbl (HRD.out W h) (by omega) (by omega) (by omega) (by omega) (by omega) (by omega) (by have := num4 ((bl.drop 4).take 4) (by rw [List.length_take]; omega); omega))
  have hok := tN_ok hbl hwn
  have HIP : Hid ((Try.prog.info? 26).map (·.size) = some (tN bl n).root.pc.toArray.size) := Lib.hid (by rw [info_p, List.size_toArray, pc_length hok.root])
  have HZP : Hid (ZERO.size = (tN bl n).root.pc.toArray.size) := Lib.hid ((show ZERO.size = 34 from rfl).trans (by rw [List.size_toArray, pc_length hok.root]))
  have HOP : Hid ((tN bl n).root.pc.toArray.all (·.oneCell') = true) := Lib.hid (by simp [V3.pc, PC, B, Value.oneCell'])
  have HB0 : Hid (X[0]? = some (.int .u8 ((bl.getD 0 0).toNat : Int))) := Lib.hid (by rw [← hxx]; exact getB bl 0 (by omega))
  have HB1 : Hid (X[1]? = some (.int .u8 ((bl.getD 1 0).toNat : Int))) := Lib.hid (by rw [← hxx]; exact getB bl 1 (by omega))
  have HB2 : Hid (X[2]? = some (.int .u8 ((bl.getD 2 0).toNat : Int))) := Lib.hid (by rw [← hxx]; exact getB bl 2 (by omega))
  have HOK := Lib.hid hok
  have HXX := Lib.hid hxx
  have HBL := Lib.hid hbl
  have hv0 : (bl.getD 0 0).toNat < 256 := (bl.getD 0 0).toNat_lt
  have hv1 : (bl.getD 1 0).toNat < 256 := (bl.getD 1 0).toNat_lt
  have hv2 : (bl.getD 2 0).toNat < 256 := (bl.getD 2 0).toNat_lt
  have HPU : Hid (∀ W : World, Calls Try.prog 12 #[.agg (tN bl n).cells.toArray] W fun e w' => e = .returned (.tuple #[.agg ((ipX (tN bl n)).map B).toArray, .int .i64 (ipE (tN bl n))]) ∧ Fr0 W w') := Lib.hid (fun W => put_calls (tN bl n) W hok)
  have HBT := Lib.hid (built_n3 n (bl.getD 0 0).toNat (bl.getD 1 0).toNat)
  have HBS := Lib.hid (built_s3 (tN bl n).root hok.root (szt bl : Int) ((bl.getD 2 0).toNat : Int))
  have HLC : Hid (lay (NV.cells ⟨n, ((bl.getD 0 0).toNat : Int), ((bl.getD 1 0).toNat : Int), ⟨0, 0, Z⟩, 0, 0⟩).toArray 3 (stm (tN bl n).root (szt bl : Int) ((bl.getD 2 0).toNat : Int)) = (tN bl n).cells.toArray) := Lib.hid (lay_stem (tN bl n) hok)
  have HSL : Hid ((stm (tN bl n).root (szt bl : Int) ((bl.getD 2 0).toNat : Int)).length = 36) := Lib.hid (by simp [stm, pc_length hok.root])
  have HIT : Hid ((Try.prog.info? 30).map (·.size) = some (tN bl n).cells.toArray.size) := Lib.hid (by rw [info_n, List.size_toArray, NV.cells_length hok])
  have HZT : Hid (ZN.size = (tN bl n).cells.toArray.size) := Lib.hid (ZN_size.trans (by rw [List.size_toArray, NV.cells_length hok]))
  have HOT : Hid ((tN bl n).cells.toArray.all (·.oneCell') = true) := Lib.hid cells_one
  have HOS : Hid ((stm (tN bl n).root (szt bl : Int) ((bl.getD 2 0).toNat : Int)).toArray.all (·.oneCell') = true) := Lib.hid (by simp [stm, V3.pc, PC, B, Value.oneCell'])
  have HIS : Hid ((Try.prog.info? 28).map (·.size) = some (stm (tN bl n).root (szt bl : Int) ((bl.getD 2 0).toNat : Int)).toArray.size) := Lib.hid (by rw [info_s, List.size_toArray]; exact congrArg some HSL.out.symm)
  have hpl := ipX_length hok
  have HIRB : Hid ((Try.prog.info? 22).map (·.size) = some ((ipX (tN bl n)).map B).toArray.size) := Lib.hid (by rw [infoB, List.size_toArray, List.length_map, hpl])
  have HZRB : Hid (ZB.size = ((ipX (tN bl n)).map B).toArray.size) := Lib.hid ((show ZB.size = 64 by simp [ZB, Z64]).trans (by rw [List.size_toArray, List.length_map, hpl]))
  have HORB : Hid (((ipX (tN bl n)).map B).toArray.all (·.oneCell') = true) := Lib.hid (by simp [B, Value.oneCell'])
  have heqb : ∀ W, (Op.equalIn 10000 22 (.agg ((ipX (tN bl n)).map B).toArray) (.agg X)).run Try.prog W = .ok (decide (ipX (tN bl n) = bl)) W := fun W => by
    rw [← hxx]
    exact eq_bytes (P := Try.prog) Try.underlying22 Try.underlying5 (by kernel_rfl) (by kernel_rfl) (by kernel_rfl) (ipX (tN bl n)) bl hpl hbl W
  have HIXB : Hid ((Try.prog.info? 22).map (·.size) = some X.size) := Lib.hid (by rw [← hxx, infoB, List.size_toArray, List.length_map, hbl])
  rw [hE] at HPU
  rw [hD] at heqb
  generalize ((ipX (tN bl n)).map B).toArray = RB at *
  have hs1 : (w.alloc (.cells X 22)).heap.size = w.heap.size + 1 := by simp
  have HX : Hid (Bk ((w.alloc (.cells X 22)).alloc (.cells ZN 30)) w.heap.size X 22) := Lib.hid (Bk.alloc (Bk.new w _) _)
  have HR : Hid (Bk ((w.alloc (.cells X 22)).alloc (.cells ZN 30)) (w.heap.size + 1) ZN 30) := Lib.hid (by have := Bk.new (w.alloc (.cells X 22)) (.cells ZN 30); rwa [hs1] at this)
  have HF : Hid (Fr0 w ((w.alloc (.cells X 22)).alloc (.cells ZN 30))) := Lib.hid (Fr.alloc (Fr.alloc (Fr.refl _ _) _) _)
  have hz : ∀ W, (zeroValue 30).run Try.prog W = .ok (.agg ZN) W := by intro W; kernel_rfl
  have hzb : ∀ W, (zeroValue 22).run Try.prog W = .ok (.agg ZB) W := by intro W; kernel_rfl
  clear hs1
  clear hxx hX hbl hza htk hok hwn hE hpl hD
  generalize (bl.getD 0 0).toNat = y0 at *
  generalize (bl.getD 1 0).toNat = y1 at *
  generalize (bl.getD 2 0).toNat = y2 at *
  generalize hsl : stm (tN bl n).root (szt bl : Int) ((y2 : Nat) : Int) = SL at *
  clear hsl
  generalize (tN bl n).root.pc.toArray = RP at *
  generalize hxc : (tN bl n).cells.toArray = XC at *
  clear hxc
  generalize hx1 : (NV.cells ⟨n, ((y0 : Nat) : Int), ((y1 : Nat) : Int), ⟨0, 0, Z⟩, 0, 0⟩).toArray = X1 at *
  have HI1 : Hid ((Try.prog.info? 30).map (·.size) = some X1.size) := Lib.hid (by rw [← hx1, info_n]; kernel_rfl)
  have HZ1 : Hid (ZN.size = X1.size) := Lib.hid (by rw [← hx1]; kernel_rfl)
  have HO1 : Hid (X1.all (·.oneCell') = true) := Lib.hid (by rw [← hx1]; exact cells_one)
  clear hx1
  generalize szt bl = sz at *
  go_enter Try.func8, Try.ntmps8
  go_wp2_with (first | (go_at_call 18; first | ((with_reducible refine (HZC.out _ HX.out).mono ?_); rintro e w1 ⟨rfl, rfl⟩)) | (go_at_call 19; (with_reducible refine (HPT.out _ HX.out).mono ?_); rintro e w2 ⟨rfl, hf2⟩; have HX2 := Lib.hid (hf2.keep HX.out (fun h => h)); have HR2 := Lib.hid (hf2.keep HR.out (fun h => h)); have HF2 := Lib.hid (HF.out.then0 hf2); have HZ2 : Hid (Bk (w2.alloc (.cells ZERO 26)) w2.heap.size ZERO 26) := Lib.hid (Bk.new _ _); clear hf2) | ((with_reducible show wpList _ _ _ ({ dst := _, op := Op.store 26 _ _, type := _, pos := _, after := _, guard := _ } :: _) _ _); refine wpList_store_row rfl 26 _ _ rfl w2.heap.size RP rfl rfl 26 ZERO HZ2.out HIP.out HZP.out HOP.out ?_; change wpList _ _ _ _ _ ((w2.alloc (.cells ZERO 26)).setRow w2.heap.size RP); have hfx : Fr0 w2 ((w2.alloc (.cells ZERO 26)).setRow w2.heap.size RP) := ArrKit.Fr.row (Fr.alloc (Fr.refl _ _) _) _ _ (.inl (Nat.le_refl _)); have HP3 : Hid (Bk ((w2.alloc (.cells ZERO 26)).setRow w2.heap.size RP) w2.heap.size RP 26) := Lib.hid (ArrKit.Bk.row HZ2.out _); have HX3 := Lib.hid (hfx.keep HX2.out (fun h => h)); have HR3 := Lib.hid (hfx.keep HR2.out (fun h => h)); have HF3 := Lib.hid (HF2.out.then0 hfx); have q0 := (Bk.cell HX3.out 0).trans HB0.out; have q1 := (Bk.cell HX3.out 1).trans HB1.out; clear hfx; generalize ((w2.alloc (.cells ZERO 26)).setRow w2.heap.size RP) = w3 at *; generalize w2.heap.size = J at *; have HN3 : Hid (Bk (w3.alloc (.cells ZN 30)) w3.heap.size ZN 30) := Lib.hid (Bk.new _ _)) | (go_at_call 20; (with_reducible refine (HWT.out _ HX3.out).mono ?_); rintro e w4 ⟨rfl, rfl⟩) | ((with_reducible show wpList _ _ _ ({ dst := _, op := Op.build 30 #[], type := _, pos := _, after := _, guard := _ } :: _) _ _); refine PtrAsk.build_eq rfl 30 _ rfl ZN (by kernel_rfl) ?_) | ((with_reducible show wpList _ _ _ ({ dst := _, op := Op.store 30 _ _, type := _, pos := _, after := _, guard := _ } :: _) _ _); refine wpList_store_row rfl 30 _ _ rfl (w.heap.size + 1) ZN rfl rfl 30 ZN HR8.out info_n rfl ZN_one ?_) | ((with_reducible show wpList _ _ _ ({ dst := _, op := Op.build 30 _, type := _, pos := _, after := _, guard := _ } :: _) _ _); refine PtrROf.build_ev rfl 30 _ rfl [(0, .int .i64 n), (1, .int .i64 (y0 : Int)), (2, .int .i64 (y1 : Int))] (by simp [Act.eval, Act.put]) X1 HBT.out ?_) | ((with_reducible show wpList _ _ _ ({ dst := _, op := Op.store 30 _ _, type := _, pos := _, after := _, guard := _ } :: _) _ _); refine wpList_store_row rfl 30 _ _ rfl w3.heap.size X1 rfl rfl 30 ZN HN3.out HI1.out HZ1.out HO1.out ?_; change wpList _ _ _ _ _ ((w3.alloc (.cells ZN 30)).setRow w3.heap.size X1); have HK5 : Hid (Bk ((w3.alloc (.cells ZN 30)).setRow w3.heap.size X1) w3.heap.size X1 30) := Lib.hid (ArrKit.Bk.row HN3.out _); have hfy : Fr0 w3 ((w3.alloc (.cells ZN 30)).setRow w3.heap.size X1) := ArrKit.Fr.row (Fr.alloc (Fr.refl _ _) _) _ _ (.inl (Nat.le_refl _)); have HX5 := Lib.hid (hfy.keep HX3.out (fun h => h)); have HR5 := Lib.hid (hfy.keep HR3.out (fun h => h)); have HP5 := Lib.hid (hfy.keep HP3.out (fun h => h)); have HF5 := Lib.hid (HF3.out.then0 hfy); have q2 := (Bk.cell HX5.out 2).trans HB2.out; have hK1 : w.heap.size < w3.heap.size := Bk.lt HX3.out; have hK2 : w.heap.size + 1 < w3.heap.size := Bk.lt HR3.out; clear hfy q0 q1; generalize ((w3.alloc (.cells ZN 30)).setRow w3.heap.size X1) = w5 at *; generalize w3.heap.size = K at *) | ((with_reducible show wpList _ _ _ ({ dst := _, op := Op.load 26 _, type := _, pos := _, after := _, guard := _ } :: _) _ _); refine wpList_load_row rfl 26 _ rfl J rfl 26 RP (0, 0) _ HP5.out Try.underlying26 rfl HIP.out ?_) | ((with_reducible show wpList _ _ _ ({ dst := _, op := Op.build 28 _, type := _, pos := _, after := _, guard := _ } :: _) _ _); refine PtrROf.build_ev rfl 28 _ rfl [(0, .agg RP), (1, .int .i64 (sz : Int)), (2, .int .i64 (y2 : Int))] (by simp [Act.eval, Act.put]) SL.toArray HBS.out ?_) | ((with_reducible show wpList _ _ _ ({ dst := _, op := Op.store 28 _ _, type := _, pos := _, after := _, guard := _ } :: _) _ _); refine wpList_store_mid rfl 28 _ _ rfl K 3 SL.toArray rfl rfl (fun j hj => ⟨by rw [Bk.cell HK5.out, Array.getElem?_eq_getElem (by have := HZ1.out; rw [ZN_size] at this; rw [List.size_toArray, HSL.out] at hj; omega)]; rfl, Bk.free HK5.out _⟩) HIS.out HOS.out ?_; change wpList _ _ _ _ _ (w5.setCells K 3 SL.toArray.toList); have HK6 : Hid (Bk (w5.setCells K 3 SL.toArray.toList) K XC 30) := Lib.hid (by have := sets_bk SL.toArray.toList 3 _ _ HK5.out; rw [show SL.toArray.toList = SL by simp, HLC.out] at this; simpa using this); have HX6 : Hid (Bk (w5.setCells K 3 SL.toArray.toList) w.heap.size X 22) := Lib.hid ((sets_fr SL.toArray.toList 3 _ (Fr.refl (fun i => i = K) w5)).keep HX5.out (Nat.ne_of_lt hK1)); have HR6 : Hid (Bk (w5.setCells K 3 SL.toArray.toList) (w.heap.size + 1) ZN 30) := Lib.hid ((sets_fr SL.toArray.toList 3 _ (Fr.refl (fun i => i = K) w5)).keep HR5.out (Nat.ne_of_lt hK2)); have HF6 : Hid (Fr0 w (w5.setCells K 3 SL.toArray.toList)) := Lib.hid (HF5.out.then (sets_fr SL.toArray.toList 3 _ (Fr.refl (fun i => i = K) w5)) (fun i hi e => by omega)); clear q2; generalize (w5.setCells K 3 SL.toArray.toList) = w6 at *) | ((with_reducible show wpList _ _ _ ({ dst := _, op := Op.load 30 _, type := _, pos := _, after := _, guard := _ } :: _) _ _); refine wpList_load_row rfl 30 _ rfl K rfl 30 XC (0, 0) _ HK6.out Try.underlying30 rfl HIT.out ?_) | (go_at_call 12; (with_reducible refine (HPU.out _).mono ?_); rintro e w7 ⟨rfl, hf7⟩; have HK7 := Lib.hid (hf7.keep HK6.out (fun h => h)); have HX7 := Lib.hid (hf7.keep HX6.out (fun h => h)); have HR7 := Lib.hid (hf7.keep HR6.out (fun h => h)); have HF7 := Lib.hid (HF6.out.then0 hf7); have HN7 : Hid (Bk (w7.alloc (.cells ZB 22)) w7.heap.size ZB 22) := Lib.hid (Bk.new _ _); clear hf7) | ((with_reducible show wpList _ _ _ ({ dst := _, op := Op.store 22 _ _, type := _, pos := _, after := _, guard := _ } :: _) _ _); refine wpList_store_row rfl 22 _ _ rfl w7.heap.size RB rfl rfl 22 ZB HN7.out HIRB.out HZRB.out HORB.out ?_; change wpList _ _ _ _ _ ((w7.alloc (.cells ZB 22)).setRow w7.heap.size RB); have HL8 : Hid (Bk ((w7.alloc (.cells ZB 22)).setRow w7.heap.size RB) w7.heap.size RB 22) := Lib.hid (ArrKit.Bk.row HN7.out _); have hfz : Fr0 w7 ((w7.alloc (.cells ZB 22)).setRow w7.heap.size RB) := ArrKit.Fr.row (Fr.alloc (Fr.refl _ _) _) _ _ (.inl (Nat.le_refl _)); have HK8 := Lib.hid (hfz.keep HK7.out (fun h => h)); have HX8 := Lib.hid (hfz.keep HX7.out (fun h => h)); have HR8 := Lib.hid (hfz.keep HR7.out (fun h => h)); have HF8 := Lib.hid (HF7.out.then0 hfz); clear hfz; generalize ((w7.alloc (.cells ZB 22)).setRow w7.heap.size RB) = w8 at *; generalize w7.heap.size = L at *) | ((with_reducible show wpList _ _ _ ({ dst := _, op := Op.load 22 _, type := _, pos := _, after := _, guard := _ } :: _) _ _); refine wpList_load_row_g (by rfl) 22 _ rfl L rfl 22 RB (0, 0) _ HL8.out Try.underlying22 rfl HIRB.out ?_) | ((with_reducible show wpList _ _ _ ({ dst := _, op := Op.load 22 _, type := _, pos := _, after := _, guard := _ } :: _) _ _); refine wpList_load_row_g (by rfl) 22 _ rfl w.heap.size rfl 22 X (0, 0) _ HX8.out Try.underlying22 rfl HIXB.out ?_) | ((with_reducible show wpList _ _ _ ({ dst := _, op := Op.load 30 _, type := _, pos := _, after := _, guard := _ } :: _) _ _); refine wpList_load_row rfl 30 _ rfl K rfl 30 XC (0, 0) _ HK8.out Try.underlying30 rfl HIT.out ?_) | ((with_reducible show wpList _ _ _ ({ dst := _, op := Op.store 30 _ _, type := _, pos := _, after := _, guard := _ } :: _) _ _); refine wpList_store_row rfl 30 _ _ rfl (w.heap.size + 1) XC rfl rfl 30 ZN HR8.out HIT.out HZT.out HOT.out ?_))
  refine fin_ct (w.heap.size + 1) 30 XC (.int .i64 0) (by rfl) (by rfl) (by rfl) (by rfl) Try.underlying30 (by rfl) HIT.out (ArrKit.Bk.row HR8.out _) ?_
  exact ⟨rfl, ArrKit.Fr.row HF8.out _ _ (.inl (by omega))⟩

def takes (bl : List UInt8) (n : Int) : Bool := decide (1 ≤ n) && decide (n ≤ 64) && !allZ bl && tkR (prt bl) && decide (ipE (tN bl n) = 0) && decide (ipX (tN bl n) = bl)
def itX (bl : List UInt8) (n : Int) : Array Value := if takes bl n then (tN bl n).cells.toArray else ZN
def itE (bl : List UInt8) (n : Int) : Int := if n < 1 ∨ 64 < n then 1 else if allZ bl then 4 else if takes bl n then 0 else 15
theorem ipE_cases (x : NV) : ipE x = 0 ∨ ipE x = 1 := by
  unfold ipE
  split
  · exact .inl rfl
  · exact .inr rfl
/-- TAKE: what inode.Take answers. -/
theorem take_calls (bl : List UInt8) (X : Array Value) (hX : (bl.map B).toArray = X) (hbl : bl.length = 64) (n : Int) (hwn : (Lit.int .i64 n).wf = true) (w : World) : Calls Try.prog 8 #[.agg X, .int .i64 n] w fun e w' => e = .returned (.tuple #[.agg (itX bl n), .int .i64 (itE bl n)]) ∧ Fr0 w w' := by
  by_cases h1 : n < 1
  · rw [show itX bl n = ZN by unfold itX takes; rw [decide_eq_false (by omega)]; rfl, show itE bl n = 1 by unfold itE; rw [if_pos (.inl h1)]]
    exact take_low X n w h1
  by_cases h2 : 64 < n
  · rw [show itX bl n = ZN by unfold itX takes; rw [decide_eq_false (p := n ≤ 64) (by omega)]; simp, show itE bl n = 1 by unfold itE; rw [if_pos (.inr h2)]]
    exact take_high X n w h2
  have hn : ¬ (n < 1 ∨ 64 < n) := by omega
  cases hza : allZ bl with
  | true =>
    rw [show itX bl n = ZN by unfold itX takes; rw [hza]; simp, show itE bl n = 4 by unfold itE; rw [if_neg hn, hza]; rfl]
    exact take_zero bl X hX hbl n w (by omega) (by omega) hza
  | false =>
    have key : takes bl n = false → itX bl n = ZN ∧ itE bl n = 15 := fun h => by
      unfold itX itE
      rw [h, if_neg hn, hza]
      exact ⟨rfl, rfl⟩
    cases htk : tkR (prt bl) with
    | false =>
      obtain ⟨e1, e2⟩ := key (by unfold takes; rw [htk]; simp)
      rw [e1, e2]
      exact take_bad bl X hX hbl n w (by omega) (by omega) hza htk
    | true =>
      rcases ipE_cases (tN bl n) with hE | hE
      · cases hD : decide (ipX (tN bl n) = bl) with
        | false =>
          obtain ⟨e1, e2⟩ := key (by unfold takes; rw [hD]; simp)
          rw [e1, e2]
          exact take_ne bl X hX hbl n w hwn (by omega) (by omega) hza htk hE hD
        | true =>
          have ht : takes bl n = true := by
            unfold takes
            rw [hD, hza, htk, decide_eq_true hE, decide_eq_true (show (1 : Int) ≤ n by omega), decide_eq_true (show n ≤ 64 by omega)]
            rfl
          have e1 : itX bl n = (tN bl n).cells.toArray := by unfold itX; rw [ht]; rfl
          have e2 : itE bl n = 0 := by unfold itE; rw [ht, if_neg hn, hza]; rfl
          rw [e1, e2]
          exact take_good bl X hX hbl n w hwn (by omega) (by omega) hza htk hE hD
      · obtain ⟨e1, e2⟩ := key (by unfold takes; rw [hE]; simp)
        rw [e1, e2]
        exact take_err bl X hX hbl n w hwn (by omega) (by omega) hza htk hE

end Go.Proofs.Ytfjkbabeceaelaa.InoTake
