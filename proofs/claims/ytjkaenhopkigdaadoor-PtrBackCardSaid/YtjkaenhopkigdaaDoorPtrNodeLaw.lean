/- The law PtrNodes, walked. -/
import Derived.Test.YtjkaenhopkigdaaDoorPtrRNode
import Derived.Test.YtjkaenhopkigdaaDoorPtrRParts
import Derived.Test.YtjkaenhopkigdaaDoorPtrAlive
set_option linter.unusedVariables false
set_option linter.unusedSimpArgs false
namespace Go.Proofs.YtjkaenhopkigdaaDoor.PtrNodeLaw
open Go Go.RowKit Go.Proofs.YtjkaenhopkigdaaDoor.K Go.Proofs.YtjkaenhopkigdaaDoor.EqKit Go.Proofs.YtjkaenhopkigdaaDoor.PtrKit Go.Proofs.YtjkaenhopkigdaaDoor.ArrKit Go.Proofs.YtjkaenhopkigdaaDoor.HeldKit Go.Proofs.YtjkaenhopkigdaaDoor.PtrAsk Go.Proofs.YtjkaenhopkigdaaDoor.ShaStep Go.Proofs.YtjkaenhopkigdaaDoor.ShaRef Go.Proofs.YtjkaenhopkigdaaDoor.ShaSum Go.Proofs.YtjkaenhopkigdaaDoor.PtrOf Go.Proofs.YtjkaenhopkigdaaDoor.PtrAlive Go.Proofs.YtjkaenhopkigdaaDoor.PtrRFit Go.Proofs.YtjkaenhopkigdaaDoor.PtrNode Go.Proofs.YtjkaenhopkigdaaDoor.PtrRNode Go.Proofs.YtjkaenhopkigdaaDoor.PtrParts Go.Proofs.YtjkaenhopkigdaaDoor.PtrRParts

def vl (v : V3) : List Lit := Lit.int .i64 v.a :: Lit.int .i64 v.b :: v.s.map fun u => Lit.int .u8 (u.toNat : Int)
theorem pc_length {v : V3} (h : v.ok) : v.pc.length = 34 := by rw [V3.pc, PC_length, h.len]
theorem cells_3 : Tryd.prog.cellsOf 46 = 102 := by kernel_rfl
theorem lits_three (v0 v1 v2 : V3) (h0 : v0.ok) (h1 : v1.ok) (h2 : v2.ok) : Tryd.prog.keyLits 4 46 (v0.pc ++ (v1.pc ++ v2.pc)) = some (vl v0 ++ (vl v1 ++ vl v2)) := by
  have l0 := pc_length h0
  have l1 := pc_length h1
  have l2 := pc_length h2
  have k0 : Tryd.prog.keyLits 3 26 v0.pc = some (vl v0) := lits_ptr v0.a v0.b v0.s h0.len h0.wa h0.wb
  have k1 : Tryd.prog.keyLits 3 26 v1.pc = some (vl v1) := lits_ptr v1.a v1.b v1.s h1.len h1.wa h1.wb
  have k2 : Tryd.prog.keyLits 3 26 v2.pc = some (vl v2) := lits_ptr v2.a v2.b v2.s h2.len h2.wa h2.wb
  have e0 : (v0.pc ++ (v1.pc ++ v2.pc)).take 34 = v0.pc := List.take_left' l0
  have e1 : ((v0.pc ++ (v1.pc ++ v2.pc)).drop 34).take 34 = v1.pc := by rw [List.drop_left' l0, List.take_left' l1]
  have e2 : ((v0.pc ++ (v1.pc ++ v2.pc)).drop 68).take 34 = v2.pc := by
    have e : (v0.pc ++ (v1.pc ++ v2.pc)).drop 68 = ((v0.pc ++ (v1.pc ++ v2.pc)).drop 34).drop 34 := by rw [List.drop_drop]
    rw [e, List.drop_left' l0, List.drop_left' l1, List.take_of_length_le (by omega)]
  unfold Program.keyLits
  rw [Tryd.underlying46]
  have hl : (v0.pc ++ (v1.pc ++ v2.pc)).length = 102 := by simp [l0, l1, l2]
  simp only [hl, cells_3, if_true]
  simp [List.range, List.range.loop, cells_p, e0, e1, e2, k0, k1, k2]
theorem eq_three (v0 v1 v2 : V3) (h0 : v0.ok) (h1 : v1.ok) (h2 : v2.ok) (W : World) :
    (Op.equalIn 10000 46 (.agg (v0.pc ++ (v1.pc ++ v2.pc)).toArray) (.agg (v0.pc ++ (v1.pc ++ v2.pc)).toArray)).run Tryd.prog W = .ok true W := by
  have hl : (v0.pc ++ (v1.pc ++ v2.pc)).length = 102 := by simp [pc_length h0, pc_length h1, pc_length h2]
  have hf : (Value.agg (v0.pc ++ (v1.pc ++ v2.pc)).toArray).formed Tryd.prog 46 = true := by
    have hz : (v0.pc ++ (v1.pc ++ v2.pc)).toArray.size = 102 := by rw [List.size_toArray, hl]
    simp only [Value.formed, Tryd.underlying46, hz, cells_3]
    rfl
  obtain ⟨r, hr, hiff⟩ := run_equalIn_deep 9996 4 46 (by kernel_rfl) W 4 4 _ _ _ _ hf hf (lits_three v0 v1 v2 h0 h1 h2) (lits_three v0 v1 v2 h0 h1 h2)
  rw [show (10000 : Nat) = 9996 + 4 from rfl, hr]
  congr 1
  exact hiff.2 rfl
theorem zero_v : (⟨0, 0, Z⟩ : V3).ok := ⟨Z_len, by decide, by decide⟩
theorem partsX_eq {bl : List UInt8} (h : bl.length = 128) (W : World) : (Op.equalIn 10000 46 (.agg (partsX bl)) (.agg (partsX bl))).run Tryd.prog W = .ok true W := by
  unfold partsX
  cases partsOK bl with
  | false =>
    have e : ZERO3 = ((⟨0, 0, Z⟩ : V3).pc ++ ((⟨0, 0, Z⟩ : V3).pc ++ (⟨0, 0, Z⟩ : V3).pc)).toArray := by kernel_rfl
    rw [if_neg (by decide), e]
    exact eq_three _ _ _ zero_v zero_v zero_v W
  | true =>
    rw [if_pos rfl, partsL, partsL, partsL, partsL, List.nil_append, List.append_assoc]
    exact eq_three _ _ _ (pv_ok h (by omega)) (pv_ok h (by omega)) (pv_ok h (by omega)) W
theorem partsX_size {bl : List UInt8} (h : bl.length = 128) : (partsX bl).size = 102 := by
  unfold partsX
  cases partsOK bl with
  | false => exact ZERO3_size
  | true => rw [if_pos rfl, List.size_toArray, partsL_length h 3 (Nat.le_refl _)]
theorem partsX_one (bl : List UInt8) : (partsX bl).all (·.oneCell') = true := by
  unfold partsX
  cases partsOK bl with
  | false => exact ZERO3_one
  | true => simp [partsL, V3.pc, PC, B, Value.oneCell']
theorem nodeX_form {ls : List V3} (h : ∀ v ∈ ls, v.ok) : ∃ l : List UInt8, nodeX ls = (l.map B).toArray ∧ l.length = 128 := by
  unfold nodeX
  cases nodeOK ls with
  | false => exact ⟨Z128, rfl, Z128_len⟩
  | true => exact ⟨nodeL ls, rfl, nodeL_length h⟩
theorem nodeX_size {ls : List V3} (h : ∀ v ∈ ls, v.ok) : (nodeX ls).size = 128 := by
  obtain ⟨l, e, hl⟩ := nodeX_form h
  rw [e, List.size_toArray, List.length_map, hl]
theorem nodeX_one {ls : List V3} (h : ∀ v ∈ ls, v.ok) : (nodeX ls).all (·.oneCell') = true := by
  obtain ⟨l, e, hl⟩ := nodeX_form h
  rw [e]; simp [B, Value.oneCell']
theorem nodeX_eq {ls : List V3} (h : ∀ v ∈ ls, v.ok) (W : World) : (Op.equalIn 10000 22 (.agg (nodeX ls)) (.agg (nodeX ls))).run Tryd.prog W = .ok true W := by
  obtain ⟨l, e, hl⟩ := nodeX_form h
  rw [e, eq_bytes (P := Tryd.prog) Tryd.underlying22 Tryd.underlying5 (by kernel_rfl) (by kernel_rfl) (by kernel_rfl) l l hl hl W, decide_eq_true rfl]

set_option maxHeartbeats 2000000 in
set_option maxRecDepth 100000 in
theorem nodes_law (A0 : Option Addr) (n c : Nat) (ls : List V3) (bl : List UInt8) (w : World) (hl : ls.length = n) (hrd : RdV w A0 ls) (hok : ∀ v ∈ ls, v.ok) (hc : n ≤ c) (hcm : c ≤ 9223372036854775807) (hn : n ≤ 140737488351232) (hbl : bl.length = 128) {tk tb : TypeId} (hK : Bk w 1 KC tk) (hB : Bk w 0 HB8 tb) :
    Calls Tryd.prog 7 #[.slice A0 n c, .agg (bl.map B).toArray] w fun e w' => e = .returned (.bool true) ∧ Fr0 w w' := by
  have HNO : Hid (∀ W : World, RdV W A0 ls → Calls Tryd.prog 26 #[.slice A0 n c] W fun e w' => e = .returned (.tuple #[.agg (nodeX ls), .int .i64 (nodeE ls)]) ∧ Fr0 W w') := Lib.hid (fun W h => node_calls A0 n c ls W hl h hok hc hcm hn)
  have HRN : Hid (∀ W : World, RdV W A0 ls → Calls Tryd.prog 27 #[.slice A0 n c] W fun e w' => e = .returned (.tuple #[.agg (nodeX ls), .int .i64 (nodeE ls)]) ∧ Fr0 W w') := Lib.hid (fun W h => rnode_calls A0 n c ls W hl h hok hc hcm hn)
  have HPA : Hid (∀ W : World, Calls Tryd.prog 28 #[.agg (bl.map B).toArray] W fun e w' => e = .returned (.tuple #[.agg (partsX bl), .int .i64 (partsE bl)]) ∧ Fr0 W w') := Lib.hid (fun W => parts_all bl W hbl)
  have HRP : Hid (∀ W : World, Calls Tryd.prog 29 #[.agg (bl.map B).toArray] W fun e w' => e = .returned (.tuple #[.agg (partsX bl), .int .i64 (partsE bl)]) ∧ Fr0 W w') := Lib.hid (fun W => rparts_all bl W hbl)
  have HIN : Hid ((Tryd.prog.info? 22).map (·.size) = some (nodeX ls).size) := Lib.hid (by rw [infoB, nodeX_size hok])
  have HZN : Hid (ZA.size = (nodeX ls).size) := Lib.hid ((show ZA.size = 128 by simp [ZA, Z128]).trans (nodeX_size hok).symm)
  have HON := Lib.hid (nodeX_one hok)
  have HEN := Lib.hid (nodeX_eq hok)
  have HIP : Hid ((Tryd.prog.info? 46).map (·.size) = some (partsX bl).size) := Lib.hid (by rw [info3, partsX_size hbl])
  have HZP : Hid (ZERO3.size = (partsX bl).size) := Lib.hid (ZERO3_size.trans (partsX_size hbl).symm)
  have HOP := Lib.hid (partsX_one bl)
  have HEP := Lib.hid (partsX_eq hbl)
  have HIX : Hid ((Tryd.prog.info? 22).map (·.size) = some (bl.map B).toArray.size) := Lib.hid (by rw [List.size_toArray, List.length_map, hbl]; kernel_rfl)
  have hz : ∀ W, (zeroValue 22).run Tryd.prog W = .ok (.agg ZA) W := by intro W; kernel_rfl
  have hz3 : ∀ W, (zeroValue 46).run Tryd.prog W = .ok (.agg ZERO3) W := by intro W; kernel_rfl
  have heq := HEN.out
  have heq3 := HEP.out
  generalize nodeX ls = XN at *
  generalize nodeE ls = EN at *
  generalize partsX bl = XP at *
  generalize partsE bl = EP at *
  generalize (bl.map B).toArray = X at *
  have HF_w0 : Hid (Fr0 w (w.alloc (.cells X 22))) := Lib.hid (Fr.alloc (Fr.refl _ _) _)
  have HX_w0 : Hid (Bk (w.alloc (.cells X 22)) w.heap.size X 22) := Lib.hid (Bk.new w _)
  have HD_w0 : Hid (RdV (w.alloc (.cells X 22)) A0 ls) := Lib.hid (hrd.later HF_w0.out (fun _ _ h => h))
  have HK_w0 : Hid (Bk (w.alloc (.cells X 22)) 1 KC tk) := Lib.hid (Bk.alloc hK _)
  have HB_w0 : Hid (Bk (w.alloc (.cells X 22)) 0 HB8 tb) := Lib.hid (Bk.alloc hB _)
  clear hl hrd hok hbl hK hB
  go_enter Tryd.func7, Tryd.ntmps7
  go_wp2_with (first | (go_at_call 9; (with_reducible refine (alive_calls _ HK_w0.out HB_w0.out).mono ?_); rintro e w1 ⟨rfl, hf⟩; have HF_w1 := Lib.hid (HF_w0.out.then0 hf); have HX_w1 := Lib.hid (hf.keep HX_w0.out (fun h => h)); have HD_w1 := Lib.hid (HD_w0.out.later hf (fun _ _ h => h)); have HK_w1 := Lib.hid (hf.keep HK_w0.out (fun h => h)); have HB_w1 := Lib.hid (hf.keep HB_w0.out (fun h => h)); clear hf) | (go_at_call 26; (with_reducible refine (HNO.out _ HD_w1.out).mono ?_); rintro e w2 ⟨rfl, hf⟩; have HF_w2 := Lib.hid (HF_w1.out.then0 hf); have HX_w2 := Lib.hid (hf.keep HX_w1.out (fun h => h)); have HD_w2 := Lib.hid (HD_w1.out.later hf (fun _ _ h => h)); have HK_w2 := Lib.hid (hf.keep HK_w1.out (fun h => h)); have HB_w2 := Lib.hid (hf.keep HB_w1.out (fun h => h)); have HZ_w2 : Hid (Bk (w2.alloc (.cells ZA 22)) w2.heap.size ZA 22) := Lib.hid (Bk.new _ _); clear hf) | (refine wpList_store_row rfl 22 _ _ rfl w2.heap.size XN rfl rfl 22 ZA HZ_w2.out HIN.out HZN.out HON.out ?_; change wpList _ _ _ _ _ ((w2.alloc (.cells ZA 22)).setRow w2.heap.size XN); have hfx : Fr0 w2 ((w2.alloc (.cells ZA 22)).setRow w2.heap.size XN) := ArrKit.Fr.row (Fr.alloc (Fr.refl _ _) _) _ _ (.inl (Nat.le_refl _)); have HG1_w3 : Hid (Bk ((w2.alloc (.cells ZA 22)).setRow w2.heap.size XN) w2.heap.size XN 22) := Lib.hid (ArrKit.Bk.row HZ_w2.out _); have HF_w3 := Lib.hid (HF_w2.out.then0 hfx); have HX_w3 := Lib.hid (hfx.keep HX_w2.out (fun h => h)); have HD_w3 := Lib.hid (HD_w2.out.later hfx (fun _ _ h => h)); have HK_w3 := Lib.hid (hfx.keep HK_w2.out (fun h => h)); have HB_w3 := Lib.hid (hfx.keep HB_w2.out (fun h => h)); clear hfx; generalize ((w2.alloc (.cells ZA 22)).setRow w2.heap.size XN) = w3 at *; generalize w2.heap.size = G1 at *) | (go_at_call 27; (with_reducible refine (HRN.out _ HD_w3.out).mono ?_); rintro e w4 ⟨rfl, hf⟩; have HF_w4 := Lib.hid (HF_w3.out.then0 hf); have HX_w4 := Lib.hid (hf.keep HX_w3.out (fun h => h)); have HD_w4 := Lib.hid (HD_w3.out.later hf (fun _ _ h => h)); have HK_w4 := Lib.hid (hf.keep HK_w3.out (fun h => h)); have HB_w4 := Lib.hid (hf.keep HB_w3.out (fun h => h)); have HG1_w4 := Lib.hid (hf.keep HG1_w3.out (fun h => h)); have HZ_w4 : Hid (Bk (w4.alloc (.cells ZA 22)) w4.heap.size ZA 22) := Lib.hid (Bk.new _ _); clear hf) | (refine wpList_store_row rfl 22 _ _ rfl w4.heap.size XN rfl rfl 22 ZA HZ_w4.out HIN.out HZN.out HON.out ?_; change wpList _ _ _ _ _ ((w4.alloc (.cells ZA 22)).setRow w4.heap.size XN); have hfx : Fr0 w4 ((w4.alloc (.cells ZA 22)).setRow w4.heap.size XN) := ArrKit.Fr.row (Fr.alloc (Fr.refl _ _) _) _ _ (.inl (Nat.le_refl _)); have HG2_w5 : Hid (Bk ((w4.alloc (.cells ZA 22)).setRow w4.heap.size XN) w4.heap.size XN 22) := Lib.hid (ArrKit.Bk.row HZ_w4.out _); have HF_w5 := Lib.hid (HF_w4.out.then0 hfx); have HX_w5 := Lib.hid (hfx.keep HX_w4.out (fun h => h)); have HD_w5 := Lib.hid (HD_w4.out.later hfx (fun _ _ h => h)); have HK_w5 := Lib.hid (hfx.keep HK_w4.out (fun h => h)); have HB_w5 := Lib.hid (hfx.keep HB_w4.out (fun h => h)); have HG1_w5 := Lib.hid (hfx.keep HG1_w4.out (fun h => h)); clear hfx; generalize ((w4.alloc (.cells ZA 22)).setRow w4.heap.size XN) = w5 at *; generalize w4.heap.size = G2 at *) | (refine wpList_load_row rfl 22 _ rfl w.heap.size rfl 22 X (0, 0) _ HX_w5.out Tryd.underlying22 rfl HIX.out ?_) | (go_at_call 28; (with_reducible refine (HPA.out _).mono ?_); rintro e w6 ⟨rfl, hf⟩; have HF_w6 := Lib.hid (HF_w5.out.then0 hf); have HX_w6 := Lib.hid (hf.keep HX_w5.out (fun h => h)); have HD_w6 := Lib.hid (HD_w5.out.later hf (fun _ _ h => h)); have HK_w6 := Lib.hid (hf.keep HK_w5.out (fun h => h)); have HB_w6 := Lib.hid (hf.keep HB_w5.out (fun h => h)); have HG1_w6 := Lib.hid (hf.keep HG1_w5.out (fun h => h)); have HG2_w6 := Lib.hid (hf.keep HG2_w5.out (fun h => h)); have HZ_w6 : Hid (Bk (w6.alloc (.cells ZERO3 46)) w6.heap.size ZERO3 46) := Lib.hid (Bk.new _ _); clear hf) | (refine wpList_store_row rfl 46 _ _ rfl w6.heap.size XP rfl rfl 46 ZERO3 HZ_w6.out HIP.out HZP.out HOP.out ?_; change wpList _ _ _ _ _ ((w6.alloc (.cells ZERO3 46)).setRow w6.heap.size XP); have hfx : Fr0 w6 ((w6.alloc (.cells ZERO3 46)).setRow w6.heap.size XP) := ArrKit.Fr.row (Fr.alloc (Fr.refl _ _) _) _ _ (.inl (Nat.le_refl _)); have HG3_w7 : Hid (Bk ((w6.alloc (.cells ZERO3 46)).setRow w6.heap.size XP) w6.heap.size XP 46) := Lib.hid (ArrKit.Bk.row HZ_w6.out _); have HF_w7 := Lib.hid (HF_w6.out.then0 hfx); have HX_w7 := Lib.hid (hfx.keep HX_w6.out (fun h => h)); have HD_w7 := Lib.hid (HD_w6.out.later hfx (fun _ _ h => h)); have HK_w7 := Lib.hid (hfx.keep HK_w6.out (fun h => h)); have HB_w7 := Lib.hid (hfx.keep HB_w6.out (fun h => h)); have HG1_w7 := Lib.hid (hfx.keep HG1_w6.out (fun h => h)); have HG2_w7 := Lib.hid (hfx.keep HG2_w6.out (fun h => h)); clear hfx; generalize ((w6.alloc (.cells ZERO3 46)).setRow w6.heap.size XP) = w7 at *; generalize w6.heap.size = G3 at *) | (refine wpList_load_row rfl 22 _ rfl w.heap.size rfl 22 X (0, 0) _ HX_w7.out Tryd.underlying22 rfl HIX.out ?_) | (go_at_call 29; (with_reducible refine (HRP.out _).mono ?_); rintro e w8 ⟨rfl, hf⟩; have HF_w8 := Lib.hid (HF_w7.out.then0 hf); have HX_w8 := Lib.hid (hf.keep HX_w7.out (fun h => h)); have HD_w8 := Lib.hid (HD_w7.out.later hf (fun _ _ h => h)); have HK_w8 := Lib.hid (hf.keep HK_w7.out (fun h => h)); have HB_w8 := Lib.hid (hf.keep HB_w7.out (fun h => h)); have HG1_w8 := Lib.hid (hf.keep HG1_w7.out (fun h => h)); have HG2_w8 := Lib.hid (hf.keep HG2_w7.out (fun h => h)); have HG3_w8 := Lib.hid (hf.keep HG3_w7.out (fun h => h)); have HZ_w8 : Hid (Bk (w8.alloc (.cells ZERO3 46)) w8.heap.size ZERO3 46) := Lib.hid (Bk.new _ _); clear hf) | (refine wpList_store_row rfl 46 _ _ rfl w8.heap.size XP rfl rfl 46 ZERO3 HZ_w8.out HIP.out HZP.out HOP.out ?_; change wpList _ _ _ _ _ ((w8.alloc (.cells ZERO3 46)).setRow w8.heap.size XP); have hfx : Fr0 w8 ((w8.alloc (.cells ZERO3 46)).setRow w8.heap.size XP) := ArrKit.Fr.row (Fr.alloc (Fr.refl _ _) _) _ _ (.inl (Nat.le_refl _)); have HG4_w9 : Hid (Bk ((w8.alloc (.cells ZERO3 46)).setRow w8.heap.size XP) w8.heap.size XP 46) := Lib.hid (ArrKit.Bk.row HZ_w8.out _); have HF_w9 := Lib.hid (HF_w8.out.then0 hfx); have HX_w9 := Lib.hid (hfx.keep HX_w8.out (fun h => h)); have HD_w9 := Lib.hid (HD_w8.out.later hfx (fun _ _ h => h)); have HK_w9 := Lib.hid (hfx.keep HK_w8.out (fun h => h)); have HB_w9 := Lib.hid (hfx.keep HB_w8.out (fun h => h)); have HG1_w9 := Lib.hid (hfx.keep HG1_w8.out (fun h => h)); have HG2_w9 := Lib.hid (hfx.keep HG2_w8.out (fun h => h)); have HG3_w9 := Lib.hid (hfx.keep HG3_w8.out (fun h => h)); clear hfx; generalize ((w8.alloc (.cells ZERO3 46)).setRow w8.heap.size XP) = w9 at *; generalize w8.heap.size = G4 at *) | (refine wpList_load_row_g (by rfl) 22 _ rfl G1 rfl 22 XN (0, 0) _ HG1_w9.out Tryd.underlying22 rfl HIN.out ?_) | (refine wpList_load_row_g (by rfl) 22 _ rfl G2 rfl 22 XN (0, 0) _ HG2_w9.out Tryd.underlying22 rfl HIN.out ?_) | (refine wpList_load_row_g (by rfl) 46 _ rfl G3 rfl 46 XP (0, 0) _ HG3_w9.out Tryd.underlying46 rfl HIP.out ?_) | (refine wpList_load_row_g (by rfl) 46 _ rfl G4 rfl 46 XP (0, 0) _ HG4_w9.out Tryd.underlying46 rfl HIP.out ?_))
  all_goals go_ret
  exact ⟨by first | rfl | simp, HF_w9.out⟩

end Go.Proofs.YtjkaenhopkigdaaDoor.PtrNodeLaw
