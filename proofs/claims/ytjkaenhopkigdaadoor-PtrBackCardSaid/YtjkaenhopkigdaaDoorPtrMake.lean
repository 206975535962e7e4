/- The law PtrMakes, walked. -/
import Derived.Test.YtjkaenhopkigdaaDoorPtrAlive
set_option linter.unusedVariables false
set_option linter.unusedSimpArgs false
namespace Go.Proofs.YtjkaenhopkigdaaDoor.PtrMake
open Go Go.RowKit Go.Proofs.YtjkaenhopkigdaaDoor.K Go.Proofs.YtjkaenhopkigdaaDoor.EqKit Go.Proofs.YtjkaenhopkigdaaDoor.PtrKit Go.Proofs.YtjkaenhopkigdaaDoor.ArrKit Go.Proofs.YtjkaenhopkigdaaDoor.HeldKit Go.Proofs.YtjkaenhopkigdaaDoor.PtrAsk Go.Proofs.YtjkaenhopkigdaaDoor.ShaStep Go.Proofs.YtjkaenhopkigdaaDoor.ShaRef Go.Proofs.YtjkaenhopkigdaaDoor.ShaSum Go.Proofs.YtjkaenhopkigdaaDoor.ShaRSum Go.Proofs.YtjkaenhopkigdaaDoor.PtrOf Go.Proofs.YtjkaenhopkigdaaDoor.PtrROf Go.Proofs.YtjkaenhopkigdaaDoor.PtrAlive

theorem eq_self (a c : Int) (s : List UInt8) (hs : s.length = 32) (ha : (Lit.int .i64 a).wf = true) (hc : (Lit.int .i64 c).wf = true) (W : World) : (Op.equalIn 10000 26 (.agg (PC a c s).toArray) (.agg (PC a c s).toArray)).run Tryd.prog W = .ok true W := by
  rw [eq_ptr a c a c s s hs hs ha hc ha hc W, decide_eq_true ⟨rfl, rfl, rfl⟩]
theorem zero_pc : ZERO = (PC 0 0 Z).toArray := by kernel_rfl
theorem ofP_size (bl : List UInt8) (a c : Int) : (ofP bl a c).size = 34 := by
  unfold ofP
  split
  · rw [List.size_toArray, PC_length, sumOf_length]
  · rfl
theorem ofP_one (bl : List UInt8) (a c : Int) : (ofP bl a c).all (·.oneCell') = true := by
  unfold ofP
  split
  · simp [PC, B, Value.oneCell']
  · exact ZERO_one
theorem ofP_eq (bl : List UInt8) (a c : Int) (ha : (Lit.int .i64 a).wf = true) (hc : (Lit.int .i64 c).wf = true) (W : World) : (Op.equalIn 10000 26 (.agg (ofP bl a c)) (.agg (ofP bl a c))).run Tryd.prog W = .ok true W := by
  unfold ofP
  split
  · exact eq_self a c _ (sumOf_length bl) ha hc W
  · rw [zero_pc]
    exact eq_self 0 0 Z Z_len (by decide) (by decide) W
set_option maxHeartbeats 2000000 in
set_option maxRecDepth 100000 in
theorem makes_law (bl : List UInt8) (hbl : bl.length = 128) (a c : Int) (w : World) (ha : (Lit.int .i64 a).wf = true) (hc : (Lit.int .i64 c).wf = true) {tk tb : TypeId} (hK : Bk w 1 KC tk) (hB : Bk w 0 HB8 tb) :
    Calls Tryd.prog 3 #[.agg (bl.map B).toArray, .int .i64 a, .int .i64 c] w fun e w' => e = .returned (.bool true) ∧ Fr0 w w' := by
  have HO : Hid (∀ W : World, Bk W 1 KC tk → Bk W 0 HB8 tb → Calls Tryd.prog 10 #[.agg (bl.map B).toArray, .int .i64 a, .int .i64 c] W fun e w' => e = .returned (.tuple #[.agg (ofP bl a c), .int .i64 (ofE a c)]) ∧ Fr0 W w') := Lib.hid (fun W h1 h2 => of_calls bl hbl a c W ha hc h1 h2)
  have HR : Hid (∀ W : World, Calls Tryd.prog 11 #[.agg (bl.map B).toArray, .int .i64 a, .int .i64 c] W fun e w' => e = .returned (.tuple #[.agg (ofP bl a c), .int .i64 (ofE a c)]) ∧ Fr0 W w') := Lib.hid (fun W => rof_calls bl hbl a c W ha hc)
  have heq := ofP_eq bl a c ha hc
  have hho : ∀ W, (Op.equalIn 10000 26 (.agg HOLE) (.agg HOLE)).run Tryd.prog W = .ok true W := eq_self (-1) (-1) Z Z_len (by decide) (by decide)
  have HI : Hid ((Tryd.prog.info? 26).map (·.size) = some (ofP bl a c).size) := Lib.hid (by rw [info_p, ofP_size])
  have HZ : Hid (ZERO.size = (ofP bl a c).size) := Lib.hid ((show ZERO.size = 34 from rfl).trans (ofP_size bl a c).symm)
  have HN : Hid ((ofP bl a c).all (·.oneCell') = true) := Lib.hid (ofP_one bl a c)
  have HYI : Hid ((Tryd.prog.info? 22).map (·.size) = some (bl.map B).toArray.size) := Lib.hid (by rw [List.size_toArray, List.length_map, hbl]; kernel_rfl)
  generalize ofP bl a c = X at *
  generalize ofE a c = E at *
  generalize (bl.map B).toArray = Y at *
  have HK : Hid (Bk (w.alloc (.cells Y 22)) 1 KC tk) := Lib.hid (Bk.alloc hK _)
  have HB : Hid (Bk (w.alloc (.cells Y 22)) 0 HB8 tb) := Lib.hid (Bk.alloc hB _)
  have HY : Hid (Bk (w.alloc (.cells Y 22)) w.heap.size Y 22) := Lib.hid (Bk.new w _)
  have HF : Hid (Fr0 w (w.alloc (.cells Y 22))) := Lib.hid (Fr.alloc (Fr.refl _ _) _)
  clear hK hB hbl ha hc
  go_enter Tryd.func3, Tryd.ntmps3
  go_wp2_with (first | (go_at_call 9; (with_reducible refine (alive_calls _ HK.out HB.out).mono ?_); rintro e w1 ⟨rfl, hf1⟩; have HF1 := Lib.hid (HF.out.then0 hf1); have HK1 := Lib.hid (hf1.keep HK.out (fun h => h)); have HB1 := Lib.hid (hf1.keep HB.out (fun h => h)); have HY1 := Lib.hid (hf1.keep HY.out (fun h => h)); clear hf1) | (refine wpList_load_row rfl 22 _ rfl w.heap.size rfl 22 Y (0, 0) _ HY1.out Tryd.underlying22 rfl HYI.out ?_) | (go_at_call 10; (with_reducible refine (HO.out _ HK1.out HB1.out).mono ?_); rintro e w2 ⟨rfl, hf2⟩; have HF2 := Lib.hid (HF1.out.then0 hf2); have HY2 := Lib.hid (hf2.keep HY1.out (fun h => h)); have HN2 : Hid (Bk (w2.alloc (.cells ZERO 26)) w2.heap.size ZERO 26) := Lib.hid (Bk.new _ _); clear hf2) | (refine wpList_store_row rfl 26 _ _ rfl w2.heap.size X rfl rfl 26 ZERO HN2.out HI.out HZ.out HN.out ?_; change wpList _ _ _ _ _ ((w2.alloc (.cells ZERO 26)).setRow w2.heap.size X); have HP3 : Hid (Bk ((w2.alloc (.cells ZERO 26)).setRow w2.heap.size X) w2.heap.size X 26) := Lib.hid (ArrKit.Bk.row HN2.out _); have HY3 : Hid (Bk ((w2.alloc (.cells ZERO 26)).setRow w2.heap.size X) w.heap.size Y 22) := Lib.hid (ArrKit.Bk.rowOther (Bk.alloc HY2.out _) _ (by have := Bk.lt HY2.out; omega)); have HF3 : Hid (Fr0 w ((w2.alloc (.cells ZERO 26)).setRow w2.heap.size X)) := Lib.hid (ArrKit.Fr.row (Fr.alloc HF2.out _) _ _ (.inl HF2.out.size)); generalize (w2.alloc (.cells ZERO 26)).setRow w2.heap.size X = w3 at *; generalize w2.heap.size = G at *) | (refine wpList_load_row rfl 22 _ rfl w.heap.size rfl 22 Y (0, 0) _ HY3.out Tryd.underlying22 rfl HYI.out ?_) | (go_at_call 11; (with_reducible refine (HR.out _).mono ?_); rintro e w4 ⟨rfl, hf4⟩; have HF4 := Lib.hid (HF3.out.then0 hf4); have HP4 := Lib.hid (hf4.keep HP3.out (fun h => h)); have HN4 : Hid (Bk (w4.alloc (.cells ZERO 26)) w4.heap.size ZERO 26) := Lib.hid (Bk.new _ _); clear hf4) | (refine wpList_store_row rfl 26 _ _ rfl w4.heap.size X rfl rfl 26 ZERO HN4.out HI.out HZ.out HN.out ?_; change wpList _ _ _ _ _ ((w4.alloc (.cells ZERO 26)).setRow w4.heap.size X); have HQ5 : Hid (Bk ((w4.alloc (.cells ZERO 26)).setRow w4.heap.size X) w4.heap.size X 26) := Lib.hid (ArrKit.Bk.row HN4.out _); have HP5 : Hid (Bk ((w4.alloc (.cells ZERO 26)).setRow w4.heap.size X) G X 26) := Lib.hid (ArrKit.Bk.rowOther (Bk.alloc HP4.out _) _ (by have := Bk.lt HP4.out; omega)); have HF5 : Hid (Fr0 w ((w4.alloc (.cells ZERO 26)).setRow w4.heap.size X)) := Lib.hid (ArrKit.Fr.row (Fr.alloc HF4.out _) _ _ (.inl HF4.out.size)); generalize (w4.alloc (.cells ZERO 26)).setRow w4.heap.size X = w5 at *; generalize w4.heap.size = H at *) | (refine wpList_load_row rfl 26 _ rfl G rfl 26 X (0, 0) _ HP5.out Tryd.underlying26 rfl HI.out ?_) | (refine wpList_load_row rfl 26 _ rfl H rfl 26 X (0, 0) _ HQ5.out Tryd.underlying26 rfl HI.out ?_) | (go_at_call 12; (with_reducible refine (hole_calls _).mono ?_); rintro e w6 ⟨rfl, hf6⟩; have HF6 := Lib.hid (HF5.out.then0 hf6); clear hf6) | (go_at_call 13; (with_reducible refine (rhole_calls _).mono ?_); rintro e w7 ⟨rfl, hf7⟩; have HF7 := Lib.hid (HF6.out.then0 hf7); clear hf7))
  all_goals go_ret
  exact ⟨by simp, HF7.out⟩

end Go.Proofs.YtjkaenhopkigdaaDoor.PtrMake
