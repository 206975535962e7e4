/- The fixed fact of the laws on pointers. -/
import Derived.Test.YtjkaenhopkigdaaDoorPtrROf
import Derived.Test.YtjkaenhopkigdaaDoorPtrFit
set_option linter.unusedVariables false
set_option linter.unusedSimpArgs false
namespace Go.Proofs.YtjkaenhopkigdaaDoor.PtrAlive
open Go Go.RowKit Go.Proofs.YtjkaenhopkigdaaDoor.K Go.Proofs.YtjkaenhopkigdaaDoor.EqKit Go.Proofs.YtjkaenhopkigdaaDoor.PtrKit Go.Proofs.YtjkaenhopkigdaaDoor.ArrKit Go.Proofs.YtjkaenhopkigdaaDoor.HeldKit Go.Proofs.YtjkaenhopkigdaaDoor.PtrAsk Go.Proofs.YtjkaenhopkigdaaDoor.ShaStep Go.Proofs.YtjkaenhopkigdaaDoor.ShaRef Go.Proofs.YtjkaenhopkigdaaDoor.ShaSum Go.Proofs.YtjkaenhopkigdaaDoor.ShaRSum Go.Proofs.YtjkaenhopkigdaaDoor.PtrOf Go.Proofs.YtjkaenhopkigdaaDoor.PtrROf Go.Proofs.YtjkaenhopkigdaaDoor.PtrFit

def blk (n : UInt8) : List UInt8 := n :: List.replicate 127 0
theorem blk_len (n : UInt8) : (blk n).length = 128 := by simp [blk]
def BA (n : UInt8) : Array Value := ((blk n).map B).toArray
theorem sums_differ : sumOf (blk 1) ≠ sumOf (blk 2) := by
  have h : (decide (sumOf (blk 1) = sumOf (blk 2))) = false := by kernel_rfl
  exact of_decide_eq_false h
def P7 : Array Value := (PC 7 (-1) (sumOf (blk 1))).toArray
theorem build_g {P : Program} {ops : Array Oper} {rest : List Oper} {o : Oper} {a : Act} {w : World} {Q : Exit → Act → World → Prop} (hw : Region.wanted o (yielded ops a.tmps) = true) (t : TypeId) (parts : Array (Nat × Operand)) (ho : o.op = .build t parts) (v : Value) (hr : (execOp a.eval o).run P w = .ok (.value v) w) (h : wpList P ops Q rest (a.put o.dst v) w) : wpList P ops Q (o :: rest) a w := by
  unfold wpList
  rw [if_pos hw]
  refine Or.inl ?_
  unfold Oper.wp
  rw [hr]
  exact h
set_option maxHeartbeats 2000000 in
set_option maxRecDepth 100000 in
theorem alive_calls (w : World) {tk tb : TypeId} (hK : Bk w 1 KC tk) (hB : Bk w 0 HB8 tb) : Calls Tryd.prog 9 #[] w fun e w' => e = .returned (.bool true) ∧ Fr0 w w' := by
  have HO : Hid (∀ W : World, Bk W 1 KC tk → Bk W 0 HB8 tb → Calls Tryd.prog 10 #[.agg (BA 1), .int .i64 7, .int .i64 (-1)] W fun e w' => e = .returned (.tuple #[.agg P7, .int .i64 0]) ∧ Fr0 W w') := Lib.hid (fun W h1 h2 => of_calls (blk 1) (blk_len 1) 7 (-1) W (by decide) (by decide) h1 h2)
  have hl := sumOf_length (blk 1)
  have HI7 : Hid ((Tryd.prog.info? 26).map (·.size) = some P7.size) := Lib.hid (by rw [info_p, P7, List.size_toArray, PC_length, hl])
  have HZ7 : Hid (ZERO.size = P7.size) := Lib.hid ((show ZERO.size = 34 from rfl).trans (by rw [P7, List.size_toArray, PC_length, hl]))
  have HO7 : Hid (P7.all (·.oneCell') = true) := Lib.hid (by simp [P7, PC, B, Value.oneCell'])
  have HA7 : Hid (P7[0]? = some (.int .i64 7)) := Lib.hid rfl
  have HB7 : Hid (P7[1]? = some (.int .i64 (-1))) := Lib.hid rfl
  have HT1 : Hid (∀ W : World, Bk W 1 KC tk → Bk W 0 HB8 tb → Calls Tryd.prog 17 #[.agg P7, .agg (BA 1)] W fun e w' => e = .returned (.bool true) ∧ Fr0 W w') := Lib.hid (fun W h1 h2 => by
    have := fits_no 7 (-1) (sumOf (blk 1)) (blk 1) W hl (blk_len 1) (by decide) (by decide) (by simp [isH]) h1 h2
    rw [decide_eq_true (rfl : sumOf (blk 1) = sumOf (blk 1))] at this
    exact this)
  have HT2 : Hid (∀ W : World, Bk W 1 KC tk → Bk W 0 HB8 tb → Calls Tryd.prog 17 #[.agg P7, .agg (BA 2)] W fun e w' => e = .returned (.bool false) ∧ Fr0 W w') := Lib.hid (fun W h1 h2 => by
    have := fits_no 7 (-1) (sumOf (blk 1)) (blk 2) W hl (blk_len 2) (by decide) (by decide) (by simp [isH]) h1 h2
    rw [decide_eq_false (fun e => sums_differ e.symm)] at this
    exact this)
  have HTH : Hid (∀ W : World, Calls Tryd.prog 14 #[.agg HOLE] W fun e w' => e = .returned (.bool true) ∧ Fr0 W w') := Lib.hid (fun W => by
    have := ish_calls (-1) (-1) Z W Z_len (by decide) (by decide)
    rw [show isH (-1) (-1) Z = true from decide_eq_true ⟨rfl, rfl, rfl⟩] at this
    exact this)
  have HK := Lib.hid hK
  have HB := Lib.hid hB
  clear hK hB hl
  go_enter Tryd.func9, Tryd.ntmps9
  go_wp2_with (first | (refine PtrAsk.build_eq rfl 22 _ rfl (BA 1) (by kernel_rfl) ?_) | (go_at_call 10; (with_reducible refine (HO.out _ HK.out HB.out).mono ?_); rintro e w1 ⟨rfl, hf1⟩; have HF1 := Lib.hid hf1; have HK1 := Lib.hid (hf1.keep HK.out (fun h => h)); have HB1 := Lib.hid (hf1.keep HB.out (fun h => h)); have HN : Hid (Bk (w1.alloc (.cells ZERO 26)) w1.heap.size ZERO 26) := Lib.hid (Bk.new _ _); clear hf1) | (refine wpList_store_row rfl 26 _ _ rfl w1.heap.size P7 rfl rfl 26 ZERO HN.out HI7.out HZ7.out HO7.out ?_; change wpList _ _ _ _ _ ((w1.alloc (.cells ZERO 26)).setRow w1.heap.size P7); have H2h : Hid (Held w [(w1.heap.size, .cells P7 26 (0, 0)), (1, .cells KC tk (0, 0)), (0, .cells HB8 tb (0, 0))] ((w1.alloc (.cells ZERO 26)).setRow w1.heap.size P7)) := Lib.hid (Held.cons (ArrKit.Bk.row HN.out _) (Held.cons (ArrKit.Bk.rowOther (Bk.alloc HK1.out _) _ (by have := Bk.lt HK1.out; omega)) (Held.cons (ArrKit.Bk.rowOther (Bk.alloc HB1.out _) _ (by have := Bk.lt HB1.out; omega)) (Held.nil (ArrKit.Fr.row (Fr.alloc HF1.out _) _ _ (.inl HF1.out.size)))))); generalize (w1.alloc (.cells ZERO 26)).setRow w1.heap.size P7 = w2 at *; generalize w1.heap.size = G at *; have ca := (Bk.cell (Held.a0 H2h.out) 0).trans HA7.out; have cb := (Bk.cell (Held.a0 H2h.out) 1).trans HB7.out) | (refine build_g (by rfl) 22 #[(0, .const (.int .u8 1))] rfl (.agg (BA 1)) (by kernel_rfl) ?_) | (refine build_g (by rfl) 22 #[(0, .const (.int .u8 2))] rfl (.agg (BA 2)) (by kernel_rfl) ?_) | (go_at_call 17; (with_reducible refine (HT1.out _ (Held.a0 (Held.tl H2h.out)) (Held.a0 (Held.tl (Held.tl H2h.out)))).mono ?_); rintro e w3 ⟨rfl, hf3⟩; have H3h := Lib.hid (Held.keep hf3 H2h.out); clear hf3) | (refine wpList_load_row_g (by rfl) 26 _ rfl G rfl 26 P7 (0, 0) _ (Held.a0 H2h.out) Tryd.underlying26 rfl HI7.out ?_) | (refine wpList_load_row_g (by rfl) 26 _ rfl G rfl 26 P7 (0, 0) _ (Held.a0 H3h.out) Tryd.underlying26 rfl HI7.out ?_) | (go_at_call 17; (with_reducible refine (HT2.out _ (Held.a0 (Held.tl H3h.out)) (Held.a0 (Held.tl (Held.tl H3h.out)))).mono ?_); rintro e w4 ⟨rfl, hf4⟩; have HF4 := Lib.hid ((Held.f H3h.out).then0 hf4); clear hf4) | (go_at_call 12; (with_reducible refine (hole_calls _).mono ?_); rintro e w5 ⟨rfl, hf5⟩; have HF5 := Lib.hid (HF4.out.then0 hf5); clear hf5) | (go_at_call 14; (with_reducible refine (HTH.out _).mono ?_); rintro e w6 ⟨rfl, hf6⟩; have HF6 := Lib.hid (HF5.out.then0 hf6); clear hf6))
  all_goals go_ret
  exact ⟨rfl, HF6.out⟩

end Go.Proofs.YtjkaenhopkigdaaDoor.PtrAlive
