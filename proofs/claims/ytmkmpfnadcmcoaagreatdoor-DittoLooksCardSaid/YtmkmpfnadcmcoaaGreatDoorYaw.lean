/- The theorems that the claim uses, text behind text (part 23). -/
import Derived.Test.YtmkmpfnadcmcoaaGreatDoorYaa
import Derived.Test.YtmkmpfnadcmcoaaGreatDoorYal
import Derived.Outline
import Derived.Deep.QuietTactic
set_option maxRecDepth 100000
set_option maxHeartbeats 8000000
set_option linter.unusedVariables false
set_option linter.unusedSimpArgs false
namespace Go.Proofs.YtmkmpfnadcmcoaaGreatDoor.PtrAsk
open Go Go.RowKit K EqKit PtrKit ArrKit HeldKit
theorem build_eq {P : Program} {ops : Array Oper} {rest : List Oper} {o : Oper} {a : Act} {w : World} {Q : Exit → Act → World → Prop} (hg : o.guard = none) (t : TypeId) (parts : Array (Nat × Operand)) (ho : o.op = .build t parts) (cs : Array Value)
  (hf : P.built t (parts.map fun (i, x) => (i, a.eval x)).toList = some cs) (h : wpList P ops Q rest (a.put o.dst (.agg cs)) w) : wpList P ops Q (o :: rest) a w :=
 wpList_build hg t parts ho (by rw [hf];rfl) (by rw [hf];exact h)
def Z : List UInt8 := List.replicate 32 0
theorem Z_len : Z.length = 32 := by simp [Z]
theorem ret_bb {a b : Bool} (h : a = b) : Ending.returned (.bool a) = .returned (.bool b) := by rw [h]
def HOLE : Array Value := (PC (-1) (-1) Z).toArray
def isH (a b : Int) (s : List UInt8) : Bool := decide (a = -1 ∧ b = -1 ∧ s = Z)
def secB (n : Int) : Bool := decide (0 ≤ n ∧ n < 4096)
def rightB (a b : Int) (s : List UInt8) : Bool := isH a b s || (secB a && (decide (b = -1) || (secB b && !decide (b = a))))
theorem info_p : (Tryz.prog.info? 31).map (·.size) = some 34 := by kernel_rfl
def ZERO : Array Value := #[.int .i64 0, .int .i64 0, .int .u8 0, .int .u8 0, .int .u8 0, .int .u8 0, .int .u8 0, .int .u8 0, .int .u8 0, .int .u8 0, .int .u8 0, .int .u8 0, .int .u8 0, .int .u8 0, .int .u8 0, .int .u8 0, .int .u8 0, .int .u8 0, .int .u8 0, .int .u8 0, .int .u8 0, .int .u8 0, .int .u8 0, .int .u8 0, .int .u8 0, .int .u8 0, .int .u8 0, .int .u8 0, .int .u8 0, .int .u8 0, .int .u8 0, .int .u8 0, .int .u8 0, .int .u8 0]
theorem HOLE_one : HOLE.all (·.oneCell') = true := by kernel_rfl
theorem hole_calls (w : World) : Calls Tryz.prog 42 #[] w fun e w' => e = .returned (.agg HOLE) ∧ Fr0 w w' := by
 go_enter Tryz.func42, Tryz.ntmps42
 have HN := jq7 (Bk.new w (.cells ZERO 31))
 go_wp2_with (first | (refine build_eq rfl 31 _ rfl HOLE (by kernel_rfl) ?_) | (refine wpList_store_row rfl 31 _ _ rfl w.heap.size HOLE rfl rfl 31 ZERO HN.o (by kernel_rfl) (by kernel_rfl) HOLE_one ?_))
 refine fin_c w.heap.size 31 HOLE (by rfl) (by rfl) (by rfl) Tryz.underlying31 (by rfl) (by kernel_rfl) (ArrKit.Bk.row HN.o _) ?_
 exact ⟨rfl, ArrKit.Fr.row (Fr.alloc (Fr.refl _ _) _) _ _ (.inl (Nat.le_refl _))⟩
theorem rhole_calls (w : World) : Calls Tryz.prog 70 #[] w fun e w' => e = .returned (.agg HOLE) ∧ Fr0 w w' := by
 go_enter Tryz.func70, Tryz.ntmps70
 have HN := jq7 (Bk.new w (.cells ZERO 31))
 go_wp2_with (first | (refine build_eq rfl 31 _ rfl HOLE (by kernel_rfl) ?_) | (refine wpList_store_row rfl 31 _ _ rfl w.heap.size HOLE rfl rfl 31 ZERO HN.o (by kernel_rfl) (by kernel_rfl) HOLE_one ?_))
 refine fin_c w.heap.size 31 HOLE (by rfl) (by rfl) (by rfl) Tryz.underlying31 (by rfl) (by kernel_rfl) (ArrKit.Bk.row HN.o _) ?_
 exact ⟨rfl, ArrKit.Fr.row (Fr.alloc (Fr.refl _ _) _) _ _ (.inl (Nat.le_refl _))⟩
theorem sec_calls (n : Int) (w : World) : Calls Tryz.prog 56 #[.int .i64 n] w fun e w' => e = .returned (.bool (secB n)) ∧ w = w' := by
 by_cases h1 : 0 ≤ n
 ·have c1 : decide (0 ≤ n) = true := decide_eq_true h1
  go_enter Tryz.func56, Tryz.ntmps56
  go_wp2
  all_goals go_ret
  all_goals exact ⟨ret_bb (by simp only [secB];first | rfl | (rw [Bool.eq_iff_iff];simp;omega)), rfl⟩
 ·have c1 : decide (0 ≤ n) = false := decide_eq_false h1
  go_enter Tryz.func56, Tryz.ntmps56
  go_wp2
  all_goals go_ret
  all_goals exact ⟨ret_bb (by simp only [secB];symm;rw [decide_eq_false_iff_not];omega), rfl⟩
theorem rsec_calls (n : Int) (w : World) : Calls Tryz.prog 71 #[.int .i64 n] w fun e w' => e = .returned (.bool (secB n)) ∧ w = w' := by
 by_cases h1 : 0 ≤ n
 ·have c1 : decide (0 ≤ n) = true := decide_eq_true h1
  go_enter Tryz.func71, Tryz.ntmps71
  go_wp2
  all_goals go_ret
  all_goals exact ⟨ret_bb (by simp only [secB];first | rfl | (rw [Bool.eq_iff_iff];simp;omega)), rfl⟩
 ·have c1 : decide (0 ≤ n) = false := decide_eq_false h1
  go_enter Tryz.func71, Tryz.ntmps71
  go_wp2
  all_goals go_ret
  all_goals exact ⟨ret_bb (by simp only [secB];symm;rw [decide_eq_false_iff_not];omega), rfl⟩
theorem ish_calls (a b : Int) (s : List UInt8) (w : World) (hs : s.length = 32) (ha : (Lit.int .i64 a).wf = true) (hb : (Lit.int .i64 b).wf = true) :
  Calls Tryz.prog 21 #[.agg (PC a b s).toArray] w fun e w' => e = .returned (.bool (isH a b s)) ∧ Fr0 w w' := by
 have heq := eq_ptr a b (-1) (-1) s Z hs Z_len ha hb (by decide) (by decide)
 change ∀ W, (Op.equalIn 10000 31 (.agg (PC a b s).toArray) (.agg HOLE)).run Tryz.prog W = .ok (isH a b s) W at heq
 have hz : (Tryz.prog.info? 31).map (·.size) = some (PC a b s).toArray.size := by rw [info_p, List.size_toArray, PC_length, hs]
 have HI := jq7 hz
 generalize (PC a b s).toArray = X at *
 generalize isH a b s = r at *
 clear hs ha hb hz
 have H0 : Jq7 (Held w [(w.heap.size, .cells X 31 (0, 0))] (w.alloc (.cells X 31))) := jq7 (Held.cons (Bk.new w _) (Held.nil (Fr.alloc (Fr.refl _ _) _)))
 go_enter Tryz.func21, Tryz.ntmps21
 go_wp2_with fail
 refine wp_region_noPanic ?_
 refine wp_region_held_drew (S := (Held w [(w.heap.size, .cells X 31 (0, 0))])) (by kernel_rfl) (Held.drew H0.o) (fun hL0 => ?_)
 refine tk (i := 0) (v := .agg X) rfl (yields_row (by kernel_rfl) 31 _ rfl w.heap.size rfl 31 X (0, 0) _ (fun w h => Held.a0 h) Tryz.underlying31 rfl HI.o) hL0 ?_
 simp only [Act.put,zA,zB,zC,zD,zE,zF]
 change wpAnyH _ _ _ _ _ 3 #[true, false, false, false] _ _
 refine rd1 1 rfl fun K hK => ?_
 simp only [zA, zB, zC]
 go_wp2_with fail
 refine (hole_calls _).mono ?_
 rintro e wx0 ⟨rfl, hfx0⟩
 dsimp only
 refine hK.out _ _ (Held.keep hfx0 hL0) (fun hL1 => ?_)
 clear hK K hL0
 refine tk (i := 2) (v := .bool r) rfl (Or.inl ⟨by kernel_rfl, fun w hSw => run_eql_op rfl rfl rfl guard_p heq w⟩) hL1 ?_
 simp only [Act.put,zA,zB,zC,zD,zE,zF]
 change wpAnyH _ _ _ _ _ 1 #[true, true, true, false] _ _
 refine rd1 3 rfl fun K hK => ?_
 simp only [zA, zB, zC]
 go_wp2_with fail
 refine hK.out _ _ hL1 (fun _ => ?_)
 clear hK K
 change wpAnyH _ _ _ _ _ 0 #[true, true, true, true] _ _
 refine wpAnyH_done (by kernel_rfl) ?_ _
 refine NoPanic.normal ?_
 have HFIN := jq7 (Held.f hL1)
 have HEND := jq7 hL1
 clear hL1
 go_wp2_with fail
 all_goals go_ret
 exact ⟨rfl, HFIN.o⟩
theorem right_1 (a b : Int) (s : List UInt8) (w : World) (hs : s.length = 32) (ha : (Lit.int .i64 a).wf = true) (hb : (Lit.int .i64 b).wf = true) (k0 : isH a b s = true) :
  Calls Tryz.prog 39 #[.agg (PC a b s).toArray] w fun e w' => e = .returned (.bool (true)) ∧ Fr0 w w' := by
 have HS : Jq7 (∀ w, _) := jq7 (fun w => ish_calls a b s w hs ha hb)
 rw [k0] at HS
 have hz : (Tryz.prog.info? 31).map (·.size) = some (PC a b s).toArray.size := by rw [info_p, List.size_toArray, PC_length, hs]
 have HI := jq7 hz
 have p0 : (PC a b s).toArray[0]? = some (.int .i64 a) := rfl
 have p1 : (PC a b s).toArray[1]? = some (.int .i64 b) := rfl
 generalize (PC a b s).toArray = X at *
 have H0 : Jq7 (Bk (w.alloc (.cells X 31)) w.heap.size X 31) := jq7 (Bk.new w _)
 have HFA : Jq7 (Fr0 w (w.alloc (.cells X 31))) := jq7 (Fr.alloc (Fr.refl _ _) _)
 have P0 := jq7 p0
 have P1 := jq7 p1
 clear hs ha hb hz k0 p0 p1
 go_enter Tryz.func39, Tryz.ntmps39
 go_wp2_with (first | (refine wpList_load_row rfl 31 _ rfl w.heap.size rfl 31 X (0, 0) _ H0.o Tryz.underlying31 rfl HI.o ?_) | (go_at_call 21;(refine (HS.o _).mono ?_);rintro e w1 ⟨rfl, hf1⟩;have q0 := (Bk.cell (hf1.keep H0.o (fun h => h)) 0).trans P0.o;have q1 := (Bk.cell (hf1.keep H0.o (fun h => h)) 1).trans P1.o;have HF1 := fq0 HFA hf1;clear hf1) | (go_at_call 56;(with_reducible refine (sec_calls a _).mono ?_);rintro e w2 ⟨rfl, rfl⟩) | (go_at_call 56;(with_reducible refine (sec_calls b _).mono ?_);rintro e w2 ⟨rfl, rfl⟩))
 all_goals go_ret
 all_goals exact ⟨rfl, HF1.o⟩
theorem right_2 (a b : Int) (s : List UInt8) (w : World) (hs : s.length = 32) (ha : (Lit.int .i64 a).wf = true) (hb : (Lit.int .i64 b).wf = true) (k0 : isH a b s = false) (k1 : secB a = false) :
  Calls Tryz.prog 39 #[.agg (PC a b s).toArray] w fun e w' => e = .returned (.bool (false)) ∧ Fr0 w w' := by
 have HS : Jq7 (∀ w, _) := jq7 (fun w => ish_calls a b s w hs ha hb)
 rw [k0] at HS
 have hz : (Tryz.prog.info? 31).map (·.size) = some (PC a b s).toArray.size := by rw [info_p, List.size_toArray, PC_length, hs]
 have HI := jq7 hz
 have p0 : (PC a b s).toArray[0]? = some (.int .i64 a) := rfl
 have p1 : (PC a b s).toArray[1]? = some (.int .i64 b) := rfl
 generalize (PC a b s).toArray = X at *
 have H0 : Jq7 (Bk (w.alloc (.cells X 31)) w.heap.size X 31) := jq7 (Bk.new w _)
 have HFA : Jq7 (Fr0 w (w.alloc (.cells X 31))) := jq7 (Fr.alloc (Fr.refl _ _) _)
 have P0 := jq7 p0
 have P1 := jq7 p1
 clear hs ha hb hz k0 p0 p1
 go_enter Tryz.func39, Tryz.ntmps39
 go_wp2_with (first | (refine wpList_load_row rfl 31 _ rfl w.heap.size rfl 31 X (0, 0) _ H0.o Tryz.underlying31 rfl HI.o ?_) | (go_at_call 21;(refine (HS.o _).mono ?_);rintro e w1 ⟨rfl, hf1⟩;have q0 := (Bk.cell (hf1.keep H0.o (fun h => h)) 0).trans P0.o;have q1 := (Bk.cell (hf1.keep H0.o (fun h => h)) 1).trans P1.o;have HF1 := fq0 HFA hf1;clear hf1) | (go_at_call 56;(with_reducible refine (sec_calls a _).mono ?_);rintro e w2 ⟨rfl, rfl⟩) | (go_at_call 56;(with_reducible refine (sec_calls b _).mono ?_);rintro e w2 ⟨rfl, rfl⟩))
 all_goals go_ret
 all_goals exact ⟨rfl, HF1.o⟩
theorem right_3 (a b : Int) (s : List UInt8) (w : World) (hs : s.length = 32) (ha : (Lit.int .i64 a).wf = true) (hb : (Lit.int .i64 b).wf = true) (k0 : isH a b s = false) (k1 : secB a = true) (k2 : (b == -1) = true) :
  Calls Tryz.prog 39 #[.agg (PC a b s).toArray] w fun e w' => e = .returned (.bool (true)) ∧ Fr0 w w' := by
 have HS : Jq7 (∀ w, _) := jq7 (fun w => ish_calls a b s w hs ha hb)
 rw [k0] at HS
 have hz : (Tryz.prog.info? 31).map (·.size) = some (PC a b s).toArray.size := by rw [info_p, List.size_toArray, PC_length, hs]
 have HI := jq7 hz
 have p0 : (PC a b s).toArray[0]? = some (.int .i64 a) := rfl
 have p1 : (PC a b s).toArray[1]? = some (.int .i64 b) := rfl
 generalize (PC a b s).toArray = X at *
 have H0 : Jq7 (Bk (w.alloc (.cells X 31)) w.heap.size X 31) := jq7 (Bk.new w _)
 have HFA : Jq7 (Fr0 w (w.alloc (.cells X 31))) := jq7 (Fr.alloc (Fr.refl _ _) _)
 have P0 := jq7 p0
 have P1 := jq7 p1
 clear hs ha hb hz k0 p0 p1
 go_enter Tryz.func39, Tryz.ntmps39
 go_wp2_with (first | (refine wpList_load_row rfl 31 _ rfl w.heap.size rfl 31 X (0, 0) _ H0.o Tryz.underlying31 rfl HI.o ?_) | (go_at_call 21;(refine (HS.o _).mono ?_);rintro e w1 ⟨rfl, hf1⟩;have q0 := (Bk.cell (hf1.keep H0.o (fun h => h)) 0).trans P0.o;have q1 := (Bk.cell (hf1.keep H0.o (fun h => h)) 1).trans P1.o;have HF1 := fq0 HFA hf1;clear hf1) | (go_at_call 56;(with_reducible refine (sec_calls a _).mono ?_);rintro e w2 ⟨rfl, rfl⟩) | (go_at_call 56;(with_reducible refine (sec_calls b _).mono ?_);rintro e w2 ⟨rfl, rfl⟩))
 all_goals go_ret
 all_goals exact ⟨rfl, HF1.o⟩
theorem right_4 (a b : Int) (s : List UInt8) (w : World) (hs : s.length = 32) (ha : (Lit.int .i64 a).wf = true) (hb : (Lit.int .i64 b).wf = true) (k0 : isH a b s = false) (k1 : secB a = true) (k2 : (b == -1) = false) (k3 : secB b = false) :
  Calls Tryz.prog 39 #[.agg (PC a b s).toArray] w fun e w' => e = .returned (.bool (false)) ∧ Fr0 w w' := by
 have HS : Jq7 (∀ w, _) := jq7 (fun w => ish_calls a b s w hs ha hb)
 rw [k0] at HS
 have hz : (Tryz.prog.info? 31).map (·.size) = some (PC a b s).toArray.size := by rw [info_p, List.size_toArray, PC_length, hs]
 have HI := jq7 hz
 have p0 : (PC a b s).toArray[0]? = some (.int .i64 a) := rfl
 have p1 : (PC a b s).toArray[1]? = some (.int .i64 b) := rfl
 generalize (PC a b s).toArray = X at *
 have H0 : Jq7 (Bk (w.alloc (.cells X 31)) w.heap.size X 31) := jq7 (Bk.new w _)
 have HFA : Jq7 (Fr0 w (w.alloc (.cells X 31))) := jq7 (Fr.alloc (Fr.refl _ _) _)
 have P0 := jq7 p0
 have P1 := jq7 p1
 clear hs ha hb hz k0 p0 p1
 go_enter Tryz.func39, Tryz.ntmps39
 go_wp2_with (first | (refine wpList_load_row rfl 31 _ rfl w.heap.size rfl 31 X (0, 0) _ H0.o Tryz.underlying31 rfl HI.o ?_) | (go_at_call 21;(refine (HS.o _).mono ?_);rintro e w1 ⟨rfl, hf1⟩;have q0 := (Bk.cell (hf1.keep H0.o (fun h => h)) 0).trans P0.o;have q1 := (Bk.cell (hf1.keep H0.o (fun h => h)) 1).trans P1.o;have HF1 := fq0 HFA hf1;clear hf1) | (go_at_call 56;(with_reducible refine (sec_calls a _).mono ?_);rintro e w2 ⟨rfl, rfl⟩) | (go_at_call 56;(with_reducible refine (sec_calls b _).mono ?_);rintro e w2 ⟨rfl, rfl⟩))
 all_goals go_ret
 all_goals exact ⟨rfl, HF1.o⟩
theorem right_5 (a b : Int) (s : List UInt8) (w : World) (hs : s.length = 32) (ha : (Lit.int .i64 a).wf = true) (hb : (Lit.int .i64 b).wf = true) (k0 : isH a b s = false) (k1 : secB a = true) (k2 : (b == -1) = false) (k3 : secB b = true) :
  Calls Tryz.prog 39 #[.agg (PC a b s).toArray] w fun e w' => e = .returned (.bool (!(b == a))) ∧ Fr0 w w' := by
 have HS : Jq7 (∀ w, _) := jq7 (fun w => ish_calls a b s w hs ha hb)
 rw [k0] at HS
 have hz : (Tryz.prog.info? 31).map (·.size) = some (PC a b s).toArray.size := by rw [info_p, List.size_toArray, PC_length, hs]
 have HI := jq7 hz
 have p0 : (PC a b s).toArray[0]? = some (.int .i64 a) := rfl
 have p1 : (PC a b s).toArray[1]? = some (.int .i64 b) := rfl
 generalize (PC a b s).toArray = X at *
 have H0 : Jq7 (Bk (w.alloc (.cells X 31)) w.heap.size X 31) := jq7 (Bk.new w _)
 have HFA : Jq7 (Fr0 w (w.alloc (.cells X 31))) := jq7 (Fr.alloc (Fr.refl _ _) _)
 have P0 := jq7 p0
 have P1 := jq7 p1
 clear hs ha hb hz k0 p0 p1
 go_enter Tryz.func39, Tryz.ntmps39
 go_wp2_with (first | (refine wpList_load_row rfl 31 _ rfl w.heap.size rfl 31 X (0, 0) _ H0.o Tryz.underlying31 rfl HI.o ?_) | (go_at_call 21;(refine (HS.o _).mono ?_);rintro e w1 ⟨rfl, hf1⟩;have q0 := (Bk.cell (hf1.keep H0.o (fun h => h)) 0).trans P0.o;have q1 := (Bk.cell (hf1.keep H0.o (fun h => h)) 1).trans P1.o;have HF1 := fq0 HFA hf1;clear hf1) | (go_at_call 56;(with_reducible refine (sec_calls a _).mono ?_);rintro e w2 ⟨rfl, rfl⟩) | (go_at_call 56;(with_reducible refine (sec_calls b _).mono ?_);rintro e w2 ⟨rfl, rfl⟩))
 all_goals go_ret
 all_goals exact ⟨rfl, HF1.o⟩
theorem right_calls (a b : Int) (s : List UInt8) (w : World) (hs : s.length = 32) (ha : (Lit.int .i64 a).wf = true) (hb : (Lit.int .i64 b).wf = true) :
  Calls Tryz.prog 39 #[.agg (PC a b s).toArray] w fun e w' => e = .returned (.bool (rightB a b s)) ∧ Fr0 w w' := by
 unfold rightB
 cases k0 : isH a b s with
 | true => exact right_1 a b s w hs ha hb k0
 | false =>
  cases k1 : secB a with
  | false => simpa using right_2 a b s w hs ha hb k0 k1
  | true =>
   by_cases hb1 : b = -1
   ·have := right_3 a b s w hs ha hb k0 k1 (by rw [beq_iff_eq];exact hb1)
    simpa [hb1] using this
   ·have k2 : (b == -1) = false := by rw [beq_eq_false_iff_ne];exact hb1
    cases k3 : secB b with
    | false => simpa [hb1] using right_4 a b s w hs ha hb k0 k1 k2 k3
    | true =>
     have := right_5 a b s w hs ha hb k0 k1 k2 k3
     have e : (b == a) = decide (b = a) := rfl
     rw [e] at this
     simpa [hb1] using this
theorem rsec_eq (n : Int) (r : Bool) (w : World) (h : secB n = r) : Calls Tryz.prog 71 #[.int .i64 n] w fun e w' => e = .returned (.bool r) ∧ w = w' := h ▸ rsec_calls n w

end Go.Proofs.YtmkmpfnadcmcoaaGreatDoor.PtrAsk
