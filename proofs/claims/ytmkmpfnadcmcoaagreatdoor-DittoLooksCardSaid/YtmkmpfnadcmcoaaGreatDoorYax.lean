/- The theorems that the claim uses, text behind text (part 24). -/
import Derived.Test.YtmkmpfnadcmcoaaGreatDoorYaw
set_option maxRecDepth 100000
set_option maxHeartbeats 8000000
set_option linter.unusedVariables false
set_option linter.unusedSimpArgs false
namespace Go.Proofs.YtmkmpfnadcmcoaaGreatDoor.PtrRRight
open Go Go.RowKit K EqKit PtrKit ArrKit HeldKit PtrAsk
theorem rright_1 (a b : Int) (s : List UInt8) (w : World) (hs : s.length = 32) (ha : (Lit.int .i64 a).wf = true) (hb : (Lit.int .i64 b).wf = true) (k0 : isH a b s = true) :
  Calls Tryz.prog 47 #[.agg (PC a b s).toArray] w fun e w' => e = .returned (.bool true) ∧ Fr0 w w' := by
 have he := eq_ptr a b (-1) (-1) s Z hs Z_len ha hb (by decide) (by decide)
 change ∀ W, (Op.equalIn 10000 31 (.agg (PC a b s).toArray) (.agg HOLE)).run Tryz.prog W = .ok (isH a b s) W at he
 rw [k0] at he
 have heq := jq7 he
 have hz : (Tryz.prog.info? 31).map (·.size) = some (PC a b s).toArray.size := by rw [info_p, List.size_toArray, PC_length, hs]
 have HI := jq7 hz
 have p0 : (PC a b s).toArray[0]? = some (.int .i64 a) := rfl
 have p1 : (PC a b s).toArray[1]? = some (.int .i64 b) := rfl
 generalize (PC a b s).toArray = X at *
 have P0 := jq7 p0
 have P1 := jq7 p1
 have H0 : Jq7 (Held w [(w.heap.size, .cells X 31 (0, 0))] (w.alloc (.cells X 31))) := jq7 (Held.cons (Bk.new w _) (Held.nil (Fr.alloc (Fr.refl _ _) _)))
 clear hs ha hb hz he k0 p0 p1
 go_enter Tryz.func47, Tryz.ntmps47
 go_wp2_with fail
 refine wp_region_noPanic ?_
 refine wp_region_held_drew (S := (Held w [(w.heap.size, .cells X 31 (0, 0))])) (by kernel_rfl) (Held.drew H0.o) (fun hL0 => ?_)
 refine tk (i := 0) (v := .agg X) rfl (yields_row (by kernel_rfl) 31 _ rfl (w.heap.size) rfl 31 X (0, 0) _ (fun w h => Held.a0 h) Tryz.underlying31 rfl HI.o) hL0 ?_
 simp only [Act.put,zA,zB,zC,zD,zE,zF]
 change wpAnyH _ _ _ _ _ 25 #[true, false, false, false, false, false, false, false, false, false, false, false, false, false, false, false, false, false, false, false, false, false, false, false, false, false] _ _
 refine rd1 1 rfl fun K hK => ?_
 simp only [zA, zB, zC]
 go_wp2_with fail
 refine (rhole_calls _).mono ?_
 rintro e wx0 ⟨rfl, hfx0⟩
 dsimp only
 refine hK.out _ _ (Held.keep hfx0 hL0) (fun hL1 => ?_)
 clear hK K hL0
 refine tk (i := 2) (v := .bool true) rfl (Or.inl ⟨by kernel_rfl, fun w hSw => run_eql_op rfl rfl rfl guard_p heq.o w⟩) hL1 ?_
 refine tk0 (i := 3) (v := .bool true) rfl hL1 ?_
 simp only [Act.put,zA,zB,zC,zD,zE,zF]
 refine tk (i := 4) (v := undef) rfl (Or.inr ⟨by kernel_rfl, rfl⟩) hL1 ?_
 refine tk (i := 5) (v := undef) rfl (Or.inr ⟨by kernel_rfl, rfl⟩) hL1 ?_
 simp only [Act.put,zA,zB,zC,zD,zE,zF]
 refine tk (i := 6) (v := undef) rfl (Or.inr ⟨by kernel_rfl, rfl⟩) hL1 ?_
 refine tk (i := 7) (v := undef) rfl (Or.inr ⟨by kernel_rfl, rfl⟩) hL1 ?_
 simp only [Act.put,zA,zB,zC,zD,zE,zF]
 refine tk (i := 8) (v := undef) rfl (Or.inr ⟨by kernel_rfl, rfl⟩) hL1 ?_
 refine tk (i := 9) (v := undef) rfl (Or.inr ⟨by kernel_rfl, rfl⟩) hL1 ?_
 simp only [Act.put,zA,zB,zC,zD,zE,zF]
 refine tk (i := 10) (v := undef) rfl (Or.inr ⟨by kernel_rfl, rfl⟩) hL1 ?_
 refine tk (i := 11) (v := undef) rfl (Or.inr ⟨by kernel_rfl, rfl⟩) hL1 ?_
 simp only [Act.put,zA,zB,zC,zD,zE,zF]
 refine tk (i := 12) (v := undef) rfl (Or.inr ⟨by kernel_rfl, rfl⟩) hL1 ?_
 refine tk (i := 13) (v := undef) rfl (Or.inr ⟨by kernel_rfl, rfl⟩) hL1 ?_
 simp only [Act.put,zA,zB,zC,zD,zE,zF]
 refine tk (i := 14) (v := undef) rfl (Or.inr ⟨by kernel_rfl, rfl⟩) hL1 ?_
 refine tk (i := 15) (v := undef) rfl (Or.inr ⟨by kernel_rfl, rfl⟩) hL1 ?_
 simp only [Act.put,zA,zB,zC,zD,zE,zF]
 refine tk (i := 16) (v := undef) rfl (Or.inr ⟨by kernel_rfl, rfl⟩) hL1 ?_
 refine tk (i := 17) (v := undef) rfl (Or.inr ⟨by kernel_rfl, rfl⟩) hL1 ?_
 simp only [Act.put,zA,zB,zC,zD,zE,zF]
 refine tk (i := 18) (v := undef) rfl (Or.inr ⟨by kernel_rfl, rfl⟩) hL1 ?_
 refine tk (i := 19) (v := undef) rfl (Or.inr ⟨by kernel_rfl, rfl⟩) hL1 ?_
 simp only [Act.put,zA,zB,zC,zD,zE,zF]
 refine tk (i := 20) (v := undef) rfl (Or.inr ⟨by kernel_rfl, rfl⟩) hL1 ?_
 refine tk (i := 21) (v := undef) rfl (Or.inr ⟨by kernel_rfl, rfl⟩) hL1 ?_
 simp only [Act.put,zA,zB,zC,zD,zE,zF]
 refine tk (i := 22) (v := undef) rfl (Or.inr ⟨by kernel_rfl, rfl⟩) hL1 ?_
 refine tk (i := 23) (v := undef) rfl (Or.inr ⟨by kernel_rfl, rfl⟩) hL1 ?_
 simp only [Act.put,zA,zB,zC,zD,zE,zF]
 refine tk0 (i := 24) (v := .bool true) rfl hL1 ?_
 refine tk0 (i := 25) (v := .bool true) rfl hL1 ?_
 simp only [Act.put,zA,zB,zC,zD,zE,zF]
 change wpAnyH _ _ _ _ _ 0 #[true, true, true, true, true, true, true, true, true, true, true, true, true, true, true, true, true, true, true, true, true, true, true, true, true, true] _ _
 refine wpAnyH_done (by kernel_rfl) ?_ _
 refine NoPanic.normal ?_
 have HFIN := jq7 (Held.f hL1)
 have HEND := jq7 hL1
 clear hL1
 go_wp2_with fail
 all_goals go_ret
 exact ⟨by kernel_rfl, HFIN.o⟩
theorem rright_2 (a b : Int) (s : List UInt8) (w : World) (hs : s.length = 32) (ha : (Lit.int .i64 a).wf = true) (hb : (Lit.int .i64 b).wf = true) (k0 : isH a b s = false) (k1 : Jq7 (secB a = false)) :
  Calls Tryz.prog 47 #[.agg (PC a b s).toArray] w fun e w' => e = .returned (.bool false) ∧ Fr0 w w' := by
 have he := eq_ptr a b (-1) (-1) s Z hs Z_len ha hb (by decide) (by decide)
 change ∀ W, (Op.equalIn 10000 31 (.agg (PC a b s).toArray) (.agg HOLE)).run Tryz.prog W = .ok (isH a b s) W at he
 rw [k0] at he
 have heq := jq7 he
 have hz : (Tryz.prog.info? 31).map (·.size) = some (PC a b s).toArray.size := by rw [info_p, List.size_toArray, PC_length, hs]
 have HI := jq7 hz
 have p0 : (PC a b s).toArray[0]? = some (.int .i64 a) := rfl
 have p1 : (PC a b s).toArray[1]? = some (.int .i64 b) := rfl
 generalize (PC a b s).toArray = X at *
 have P0 := jq7 p0
 have P1 := jq7 p1
 have H0 : Jq7 (Held w [(w.heap.size, .cells X 31 (0, 0))] (w.alloc (.cells X 31))) := jq7 (Held.cons (Bk.new w _) (Held.nil (Fr.alloc (Fr.refl _ _) _)))
 clear hs ha hb hz he k0 p0 p1
 go_enter Tryz.func47, Tryz.ntmps47
 go_wp2_with fail
 refine wp_region_noPanic ?_
 refine wp_region_held_drew (S := (Held w [(w.heap.size, .cells X 31 (0, 0))])) (by kernel_rfl) (Held.drew H0.o) (fun hL0 => ?_)
 refine tk (i := 0) (v := .agg X) rfl (yields_row (by kernel_rfl) 31 _ rfl (w.heap.size) rfl 31 X (0, 0) _ (fun w h => Held.a0 h) Tryz.underlying31 rfl HI.o) hL0 ?_
 simp only [Act.put,zA,zB,zC,zD,zE,zF]
 change wpAnyH _ _ _ _ _ 25 #[true, false, false, false, false, false, false, false, false, false, false, false, false, false, false, false, false, false, false, false, false, false, false, false, false, false] _ _
 refine rd1 1 rfl fun K hK => ?_
 simp only [zA, zB, zC]
 go_wp2_with fail
 refine (rhole_calls _).mono ?_
 rintro e wx0 ⟨rfl, hfx0⟩
 dsimp only
 refine hK.out _ _ (Held.keep hfx0 hL0) (fun hL1 => ?_)
 clear hK K hL0
 refine tk (i := 2) (v := .bool false) rfl (Or.inl ⟨by kernel_rfl, fun w hSw => run_eql_op rfl rfl rfl guard_p heq.o w⟩) hL1 ?_
 refine tk0 (i := 3) (v := .bool false) rfl hL1 ?_
 simp only [Act.put,zA,zB,zC,zD,zE,zF]
 refine tk0 (i := 4) (v := .pointer (some ⟨w.heap.size, 0, none⟩)) rfl hL1 ?_
 refine tk (i := 5) (v := .int .i64 a) rfl (Or.inl ⟨by kernel_rfl, fun w hSw => by have hcl := (fun w h => (Bk.cell (Held.a0 h) 0).trans P0.o) w hSw;go_simp⟩) hL1 ?_
 simp only [Act.put,zA,zB,zC,zD,zE,zF]
 change wpAnyH _ _ _ _ _ 20 #[true, true, true, true, true, true, false, false, false, false, false, false, false, false, false, false, false, false, false, false, false, false, false, false, false, false] _ _
 refine rd1 6 rfl fun K hK => ?_
 simp only [zA, zB, zC]
 go_wp2_with fail
 refine (rsec_eq a false _ k1.o).mono ?_
 rintro e wx1 ⟨rfl, rfl⟩
 dsimp only
 refine hK.out _ _ (hL1) (fun hL2 => ?_)
 clear hK K hL1
 refine tk0 (i := 7) (v := .bool false) rfl hL2 ?_
 refine tk (i := 8) (v := undef) rfl (Or.inr ⟨by kernel_rfl, rfl⟩) hL2 ?_
 simp only [Act.put,zA,zB,zC,zD,zE,zF]
 refine tk (i := 9) (v := undef) rfl (Or.inr ⟨by kernel_rfl, rfl⟩) hL2 ?_
 refine tk (i := 10) (v := undef) rfl (Or.inr ⟨by kernel_rfl, rfl⟩) hL2 ?_
 simp only [Act.put,zA,zB,zC,zD,zE,zF]
 refine tk (i := 11) (v := undef) rfl (Or.inr ⟨by kernel_rfl, rfl⟩) hL2 ?_
 refine tk (i := 12) (v := undef) rfl (Or.inr ⟨by kernel_rfl, rfl⟩) hL2 ?_
 simp only [Act.put,zA,zB,zC,zD,zE,zF]
 refine tk (i := 13) (v := undef) rfl (Or.inr ⟨by kernel_rfl, rfl⟩) hL2 ?_
 refine tk (i := 14) (v := undef) rfl (Or.inr ⟨by kernel_rfl, rfl⟩) hL2 ?_
 simp only [Act.put,zA,zB,zC,zD,zE,zF]
 refine tk (i := 15) (v := undef) rfl (Or.inr ⟨by kernel_rfl, rfl⟩) hL2 ?_
 refine tk (i := 16) (v := undef) rfl (Or.inr ⟨by kernel_rfl, rfl⟩) hL2 ?_
 simp only [Act.put,zA,zB,zC,zD,zE,zF]
 refine tk (i := 17) (v := undef) rfl (Or.inr ⟨by kernel_rfl, rfl⟩) hL2 ?_
 refine tk (i := 18) (v := undef) rfl (Or.inr ⟨by kernel_rfl, rfl⟩) hL2 ?_
 simp only [Act.put,zA,zB,zC,zD,zE,zF]
 refine tk (i := 19) (v := undef) rfl (Or.inr ⟨by kernel_rfl, rfl⟩) hL2 ?_
 refine tk (i := 20) (v := undef) rfl (Or.inr ⟨by kernel_rfl, rfl⟩) hL2 ?_
 simp only [Act.put,zA,zB,zC,zD,zE,zF]
 refine tk (i := 21) (v := undef) rfl (Or.inr ⟨by kernel_rfl, rfl⟩) hL2 ?_
 refine tk (i := 22) (v := undef) rfl (Or.inr ⟨by kernel_rfl, rfl⟩) hL2 ?_
 simp only [Act.put,zA,zB,zC,zD,zE,zF]
 refine tk0 (i := 23) (v := .bool false) rfl hL2 ?_
 refine tk0 (i := 24) (v := .bool false) rfl hL2 ?_
 simp only [Act.put,zA,zB,zC,zD,zE,zF]
 refine tk0 (i := 25) (v := .bool false) rfl hL2 ?_
 simp only [Act.put,zA,zB,zC,zD,zE,zF]
 change wpAnyH _ _ _ _ _ 0 #[true, true, true, true, true, true, true, true, true, true, true, true, true, true, true, true, true, true, true, true, true, true, true, true, true, true] _ _
 refine wpAnyH_done (by kernel_rfl) ?_ _
 refine NoPanic.normal ?_
 have HFIN := jq7 (Held.f hL2)
 have HEND := jq7 hL2
 clear hL2
 go_wp2_with fail
 all_goals go_ret
 exact ⟨by kernel_rfl, HFIN.o⟩
theorem rright_3 (a b : Int) (s : List UInt8) (w : World) (hs : s.length = 32) (ha : (Lit.int .i64 a).wf = true) (hb : (Lit.int .i64 b).wf = true) (k0 : isH a b s = false) (k1 : Jq7 (secB a = true)) (k2 : (b == -1) = true) :
  Calls Tryz.prog 47 #[.agg (PC a b s).toArray] w fun e w' => e = .returned (.bool true) ∧ Fr0 w w' := by
 have he := eq_ptr a b (-1) (-1) s Z hs Z_len ha hb (by decide) (by decide)
 change ∀ W, (Op.equalIn 10000 31 (.agg (PC a b s).toArray) (.agg HOLE)).run Tryz.prog W = .ok (isH a b s) W at he
 rw [k0] at he
 have heq := jq7 he
 have hz : (Tryz.prog.info? 31).map (·.size) = some (PC a b s).toArray.size := by rw [info_p, List.size_toArray, PC_length, hs]
 have HI := jq7 hz
 have p0 : (PC a b s).toArray[0]? = some (.int .i64 a) := rfl
 have p1 : (PC a b s).toArray[1]? = some (.int .i64 b) := rfl
 generalize (PC a b s).toArray = X at *
 have P0 := jq7 p0
 have P1 := jq7 p1
 have H0 : Jq7 (Held w [(w.heap.size, .cells X 31 (0, 0))] (w.alloc (.cells X 31))) := jq7 (Held.cons (Bk.new w _) (Held.nil (Fr.alloc (Fr.refl _ _) _)))
 clear hs ha hb hz he k0 p0 p1
 go_enter Tryz.func47, Tryz.ntmps47
 go_wp2_with fail
 refine wp_region_noPanic ?_
 refine wp_region_held_drew (S := (Held w [(w.heap.size, .cells X 31 (0, 0))])) (by kernel_rfl) (Held.drew H0.o) (fun hL0 => ?_)
 refine tk (i := 0) (v := .agg X) rfl (yields_row (by kernel_rfl) 31 _ rfl (w.heap.size) rfl 31 X (0, 0) _ (fun w h => Held.a0 h) Tryz.underlying31 rfl HI.o) hL0 ?_
 simp only [Act.put,zA,zB,zC,zD,zE,zF]
 change wpAnyH _ _ _ _ _ 25 #[true, false, false, false, false, false, false, false, false, false, false, false, false, false, false, false, false, false, false, false, false, false, false, false, false, false] _ _
 refine rd1 1 rfl fun K hK => ?_
 simp only [zA, zB, zC]
 go_wp2_with fail
 refine (rhole_calls _).mono ?_
 rintro e wx0 ⟨rfl, hfx0⟩
 dsimp only
 refine hK.out _ _ (Held.keep hfx0 hL0) (fun hL1 => ?_)
 clear hK K hL0
 refine tk (i := 2) (v := .bool false) rfl (Or.inl ⟨by kernel_rfl, fun w hSw => run_eql_op rfl rfl rfl guard_p heq.o w⟩) hL1 ?_
 refine tk0 (i := 3) (v := .bool false) rfl hL1 ?_
 simp only [Act.put,zA,zB,zC,zD,zE,zF]
 refine tk0 (i := 4) (v := .pointer (some ⟨w.heap.size, 0, none⟩)) rfl hL1 ?_
 refine tk (i := 5) (v := .int .i64 a) rfl (Or.inl ⟨by kernel_rfl, fun w hSw => by have hcl := (fun w h => (Bk.cell (Held.a0 h) 0).trans P0.o) w hSw;go_simp⟩) hL1 ?_
 simp only [Act.put,zA,zB,zC,zD,zE,zF]
 change wpAnyH _ _ _ _ _ 20 #[true, true, true, true, true, true, false, false, false, false, false, false, false, false, false, false, false, false, false, false, false, false, false, false, false, false] _ _
 refine rd1 6 rfl fun K hK => ?_
 simp only [zA, zB, zC]
 go_wp2_with fail
 refine (rsec_eq a true _ k1.o).mono ?_
 rintro e wx1 ⟨rfl, rfl⟩
 dsimp only
 refine hK.out _ _ (hL1) (fun hL2 => ?_)
 clear hK K hL1
 refine tk0 (i := 7) (v := .bool true) rfl hL2 ?_
 refine tk0 (i := 8) (v := .pointer (some ⟨w.heap.size, 1, none⟩)) rfl hL2 ?_
 simp only [Act.put,zA,zB,zC,zD,zE,zF]
 refine tk (i := 9) (v := .int .i64 b) rfl (Or.inl ⟨by kernel_rfl, fun w hSw => by have hcl := (fun w h => (Bk.cell (Held.a0 h) 1).trans P1.o) w hSw;go_simp⟩) hL2 ?_
 refine tk (i := 10) (v := .bool true) rfl (Or.inl ⟨by kernel_rfl, fun w hSw => by go_simp <;> (first | exact beq_iff_eq.1 (by assumption) | exact beq_eq_false_iff_ne.1 (by assumption) | omega)⟩) hL2 ?_
 simp only [Act.put,zA,zB,zC,zD,zE,zF]
 refine tk0 (i := 11) (v := .bool true) rfl hL2 ?_
 refine tk (i := 12) (v := undef) rfl (Or.inr ⟨by kernel_rfl, rfl⟩) hL2 ?_
 simp only [Act.put,zA,zB,zC,zD,zE,zF]
 refine tk (i := 13) (v := undef) rfl (Or.inr ⟨by kernel_rfl, rfl⟩) hL2 ?_
 refine tk (i := 14) (v := undef) rfl (Or.inr ⟨by kernel_rfl, rfl⟩) hL2 ?_
 simp only [Act.put,zA,zB,zC,zD,zE,zF]
 refine tk (i := 15) (v := undef) rfl (Or.inr ⟨by kernel_rfl, rfl⟩) hL2 ?_
 refine tk (i := 16) (v := undef) rfl (Or.inr ⟨by kernel_rfl, rfl⟩) hL2 ?_
 simp only [Act.put,zA,zB,zC,zD,zE,zF]
 refine tk (i := 17) (v := undef) rfl (Or.inr ⟨by kernel_rfl, rfl⟩) hL2 ?_
 refine tk (i := 18) (v := undef) rfl (Or.inr ⟨by kernel_rfl, rfl⟩) hL2 ?_
 simp only [Act.put,zA,zB,zC,zD,zE,zF]
 refine tk (i := 19) (v := undef) rfl (Or.inr ⟨by kernel_rfl, rfl⟩) hL2 ?_
 refine tk (i := 20) (v := undef) rfl (Or.inr ⟨by kernel_rfl, rfl⟩) hL2 ?_
 simp only [Act.put,zA,zB,zC,zD,zE,zF]
 refine tk (i := 21) (v := undef) rfl (Or.inr ⟨by kernel_rfl, rfl⟩) hL2 ?_
 refine tk0 (i := 22) (v := .bool true) rfl hL2 ?_
 simp only [Act.put,zA,zB,zC,zD,zE,zF]
 refine tk0 (i := 23) (v := .bool true) rfl hL2 ?_
 refine tk0 (i := 24) (v := .bool true) rfl hL2 ?_
 simp only [Act.put,zA,zB,zC,zD,zE,zF]
 refine tk0 (i := 25) (v := .bool true) rfl hL2 ?_
 simp only [Act.put,zA,zB,zC,zD,zE,zF]
 change wpAnyH _ _ _ _ _ 0 #[true, true, true, true, true, true, true, true, true, true, true, true, true, true, true, true, true, true, true, true, true, true, true, true, true, true] _ _
 refine wpAnyH_done (by kernel_rfl) ?_ _
 refine NoPanic.normal ?_
 have HFIN := jq7 (Held.f hL2)
 have HEND := jq7 hL2
 clear hL2
 go_wp2_with fail
 all_goals go_ret
 exact ⟨by kernel_rfl, HFIN.o⟩
theorem rright_4 (a b : Int) (s : List UInt8) (w : World) (hs : s.length = 32) (ha : (Lit.int .i64 a).wf = true) (hb : (Lit.int .i64 b).wf = true) (k0 : isH a b s = false) (k1 : Jq7 (secB a = true)) (k2 : (b == -1) = false) (k3 : Jq7 (secB b = false)) :
  Calls Tryz.prog 47 #[.agg (PC a b s).toArray] w fun e w' => e = .returned (.bool false) ∧ Fr0 w w' := by
 have he := eq_ptr a b (-1) (-1) s Z hs Z_len ha hb (by decide) (by decide)
 change ∀ W, (Op.equalIn 10000 31 (.agg (PC a b s).toArray) (.agg HOLE)).run Tryz.prog W = .ok (isH a b s) W at he
 rw [k0] at he
 have heq := jq7 he
 have hz : (Tryz.prog.info? 31).map (·.size) = some (PC a b s).toArray.size := by rw [info_p, List.size_toArray, PC_length, hs]
 have HI := jq7 hz
 have p0 : (PC a b s).toArray[0]? = some (.int .i64 a) := rfl
 have p1 : (PC a b s).toArray[1]? = some (.int .i64 b) := rfl
 generalize (PC a b s).toArray = X at *
 have P0 := jq7 p0
 have P1 := jq7 p1
 have H0 : Jq7 (Held w [(w.heap.size, .cells X 31 (0, 0))] (w.alloc (.cells X 31))) := jq7 (Held.cons (Bk.new w _) (Held.nil (Fr.alloc (Fr.refl _ _) _)))
 clear hs ha hb hz he k0 p0 p1
 go_enter Tryz.func47, Tryz.ntmps47
 go_wp2_with fail
 refine wp_region_noPanic ?_
 refine wp_region_held_drew (S := (Held w [(w.heap.size, .cells X 31 (0, 0))])) (by kernel_rfl) (Held.drew H0.o) (fun hL0 => ?_)
 refine tk (i := 0) (v := .agg X) rfl (yields_row (by kernel_rfl) 31 _ rfl (w.heap.size) rfl 31 X (0, 0) _ (fun w h => Held.a0 h) Tryz.underlying31 rfl HI.o) hL0 ?_
 simp only [Act.put,zA,zB,zC,zD,zE,zF]
 change wpAnyH _ _ _ _ _ 25 #[true, false, false, false, false, false, false, false, false, false, false, false, false, false, false, false, false, false, false, false, false, false, false, false, false, false] _ _
 refine rd1 1 rfl fun K hK => ?_
 simp only [zA, zB, zC]
 go_wp2_with fail
 refine (rhole_calls _).mono ?_
 rintro e wx0 ⟨rfl, hfx0⟩
 dsimp only
 refine hK.out _ _ (Held.keep hfx0 hL0) (fun hL1 => ?_)
 clear hK K hL0
 refine tk (i := 2) (v := .bool false) rfl (Or.inl ⟨by kernel_rfl, fun w hSw => run_eql_op rfl rfl rfl guard_p heq.o w⟩) hL1 ?_
 refine tk0 (i := 3) (v := .bool false) rfl hL1 ?_
 simp only [Act.put,zA,zB,zC,zD,zE,zF]
 refine tk0 (i := 4) (v := .pointer (some ⟨w.heap.size, 0, none⟩)) rfl hL1 ?_
 refine tk (i := 5) (v := .int .i64 a) rfl (Or.inl ⟨by kernel_rfl, fun w hSw => by have hcl := (fun w h => (Bk.cell (Held.a0 h) 0).trans P0.o) w hSw;go_simp⟩) hL1 ?_
 simp only [Act.put,zA,zB,zC,zD,zE,zF]
 change wpAnyH _ _ _ _ _ 20 #[true, true, true, true, true, true, false, false, false, false, false, false, false, false, false, false, false, false, false, false, false, false, false, false, false, false] _ _
 refine rd1 6 rfl fun K hK => ?_
 simp only [zA, zB, zC]
 go_wp2_with fail
 refine (rsec_eq a true _ k1.o).mono ?_
 rintro e wx1 ⟨rfl, rfl⟩
 dsimp only
 refine hK.out _ _ (hL1) (fun hL2 => ?_)
 clear hK K hL1
 refine tk0 (i := 7) (v := .bool true) rfl hL2 ?_
 refine tk0 (i := 8) (v := .pointer (some ⟨w.heap.size, 1, none⟩)) rfl hL2 ?_
 simp only [Act.put,zA,zB,zC,zD,zE,zF]
 refine tk (i := 9) (v := .int .i64 b) rfl (Or.inl ⟨by kernel_rfl, fun w hSw => by have hcl := (fun w h => (Bk.cell (Held.a0 h) 1).trans P1.o) w hSw;go_simp⟩) hL2 ?_
 refine tk (i := 10) (v := .bool false) rfl (Or.inl ⟨by kernel_rfl, fun w hSw => by go_simp <;> (first | exact beq_iff_eq.1 (by assumption) | exact beq_eq_false_iff_ne.1 (by assumption) | omega)⟩) hL2 ?_
 simp only [Act.put,zA,zB,zC,zD,zE,zF]
 refine tk0 (i := 11) (v := .bool false) rfl hL2 ?_
 refine tk0 (i := 12) (v := .pointer (some ⟨w.heap.size, 1, none⟩)) rfl hL2 ?_
 simp only [Act.put,zA,zB,zC,zD,zE,zF]
 refine tk (i := 13) (v := .int .i64 b) rfl (Or.inl ⟨by kernel_rfl, fun w hSw => by have hcl := (fun w h => (Bk.cell (Held.a0 h) 1).trans P1.o) w hSw;go_simp⟩) hL2 ?_
 simp only [Act.put,zA,zB,zC,zD,zE,zF]
 change wpAnyH _ _ _ _ _ 12 #[true, true, true, true, true, true, true, true, true, true, true, true, true, true, false, false, false, false, false, false, false, false, false, false, false, false] _ _
 refine rd1 14 rfl fun K hK => ?_
 simp only [zA, zB, zC]
 go_wp2_with fail
 refine (rsec_eq b false _ k3.o).mono ?_
 rintro e wx2 ⟨rfl, rfl⟩
 dsimp only
 refine hK.out _ _ (hL2) (fun hL3 => ?_)
 clear hK K hL2
 refine tk0 (i := 15) (v := .bool false) rfl hL3 ?_
 refine tk (i := 16) (v := undef) rfl (Or.inr ⟨by kernel_rfl, rfl⟩) hL3 ?_
 simp only [Act.put,zA,zB,zC,zD,zE,zF]
 refine tk (i := 17) (v := undef) rfl (Or.inr ⟨by kernel_rfl, rfl⟩) hL3 ?_
 refine tk (i := 18) (v := undef) rfl (Or.inr ⟨by kernel_rfl, rfl⟩) hL3 ?_
 simp only [Act.put,zA,zB,zC,zD,zE,zF]
 refine tk (i := 19) (v := undef) rfl (Or.inr ⟨by kernel_rfl, rfl⟩) hL3 ?_
 refine tk (i := 20) (v := undef) rfl (Or.inr ⟨by kernel_rfl, rfl⟩) hL3 ?_
 simp only [Act.put,zA,zB,zC,zD,zE,zF]
 refine tk0 (i := 21) (v := .bool false) rfl hL3 ?_
 refine tk0 (i := 22) (v := .bool false) rfl hL3 ?_
 simp only [Act.put,zA,zB,zC,zD,zE,zF]
 refine tk0 (i := 23) (v := .bool false) rfl hL3 ?_
 refine tk0 (i := 24) (v := .bool false) rfl hL3 ?_
 simp only [Act.put,zA,zB,zC,zD,zE,zF]
 refine tk0 (i := 25) (v := .bool false) rfl hL3 ?_
 simp only [Act.put,zA,zB,zC,zD,zE,zF]
 change wpAnyH _ _ _ _ _ 0 #[true, true, true, true, true, true, true, true, true, true, true, true, true, true, true, true, true, true, true, true, true, true, true, true, true, true] _ _
 refine wpAnyH_done (by kernel_rfl) ?_ _
 refine NoPanic.normal ?_
 have HFIN := jq7 (Held.f hL3)
 have HEND := jq7 hL3
 clear hL3
 go_wp2_with fail
 all_goals go_ret
 exact ⟨by kernel_rfl, HFIN.o⟩
theorem rright_5 (a b : Int) (s : List UInt8) (w : World) (hs : s.length = 32) (ha : (Lit.int .i64 a).wf = true) (hb : (Lit.int .i64 b).wf = true) (k0 : isH a b s = false) (k1 : Jq7 (secB a = true)) (k2 : (b == -1) = false) (k3 : Jq7 (secB b = true)) (k4 : (b == a) = true) :
  Calls Tryz.prog 47 #[.agg (PC a b s).toArray] w fun e w' => e = .returned (.bool false) ∧ Fr0 w w' := by
 have he := eq_ptr a b (-1) (-1) s Z hs Z_len ha hb (by decide) (by decide)
 change ∀ W, (Op.equalIn 10000 31 (.agg (PC a b s).toArray) (.agg HOLE)).run Tryz.prog W = .ok (isH a b s) W at he
 rw [k0] at he
 have heq := jq7 he
 have hz : (Tryz.prog.info? 31).map (·.size) = some (PC a b s).toArray.size := by rw [info_p, List.size_toArray, PC_length, hs]
 have HI := jq7 hz
 have p0 : (PC a b s).toArray[0]? = some (.int .i64 a) := rfl
 have p1 : (PC a b s).toArray[1]? = some (.int .i64 b) := rfl
 generalize (PC a b s).toArray = X at *
 have P0 := jq7 p0
 have P1 := jq7 p1
 have H0 : Jq7 (Held w [(w.heap.size, .cells X 31 (0, 0))] (w.alloc (.cells X 31))) := jq7 (Held.cons (Bk.new w _) (Held.nil (Fr.alloc (Fr.refl _ _) _)))
 clear hs ha hb hz he k0 p0 p1
 go_enter Tryz.func47, Tryz.ntmps47
 go_wp2_with fail
 refine wp_region_noPanic ?_
 refine wp_region_held_drew (S := (Held w [(w.heap.size, .cells X 31 (0, 0))])) (by kernel_rfl) (Held.drew H0.o) (fun hL0 => ?_)
 refine tk (i := 0) (v := .agg X) rfl (yields_row (by kernel_rfl) 31 _ rfl (w.heap.size) rfl 31 X (0, 0) _ (fun w h => Held.a0 h) Tryz.underlying31 rfl HI.o) hL0 ?_
 simp only [Act.put,zA,zB,zC,zD,zE,zF]
 change wpAnyH _ _ _ _ _ 25 #[true, false, false, false, false, false, false, false, false, false, false, false, false, false, false, false, false, false, false, false, false, false, false, false, false, false] _ _
 refine rd1 1 rfl fun K hK => ?_
 simp only [zA, zB, zC]
 go_wp2_with fail
 refine (rhole_calls _).mono ?_
 rintro e wx0 ⟨rfl, hfx0⟩
 dsimp only
 refine hK.out _ _ (Held.keep hfx0 hL0) (fun hL1 => ?_)
 clear hK K hL0
 refine tk (i := 2) (v := .bool false) rfl (Or.inl ⟨by kernel_rfl, fun w hSw => run_eql_op rfl rfl rfl guard_p heq.o w⟩) hL1 ?_
 refine tk0 (i := 3) (v := .bool false) rfl hL1 ?_
 simp only [Act.put,zA,zB,zC,zD,zE,zF]
 refine tk0 (i := 4) (v := .pointer (some ⟨w.heap.size, 0, none⟩)) rfl hL1 ?_
 refine tk (i := 5) (v := .int .i64 a) rfl (Or.inl ⟨by kernel_rfl, fun w hSw => by have hcl := (fun w h => (Bk.cell (Held.a0 h) 0).trans P0.o) w hSw;go_simp⟩) hL1 ?_
 simp only [Act.put,zA,zB,zC,zD,zE,zF]
 change wpAnyH _ _ _ _ _ 20 #[true, true, true, true, true, true, false, false, false, false, false, false, false, false, false, false, false, false, false, false, false, false, false, false, false, false] _ _
 refine rd1 6 rfl fun K hK => ?_
 simp only [zA, zB, zC]
 go_wp2_with fail
 refine (rsec_eq a true _ k1.o).mono ?_
 rintro e wx1 ⟨rfl, rfl⟩
 dsimp only
 refine hK.out _ _ (hL1) (fun hL2 => ?_)
 clear hK K hL1
 refine tk0 (i := 7) (v := .bool true) rfl hL2 ?_
 refine tk0 (i := 8) (v := .pointer (some ⟨w.heap.size, 1, none⟩)) rfl hL2 ?_
 simp only [Act.put,zA,zB,zC,zD,zE,zF]
 refine tk (i := 9) (v := .int .i64 b) rfl (Or.inl ⟨by kernel_rfl, fun w hSw => by have hcl := (fun w h => (Bk.cell (Held.a0 h) 1).trans P1.o) w hSw;go_simp⟩) hL2 ?_
 refine tk (i := 10) (v := .bool false) rfl (Or.inl ⟨by kernel_rfl, fun w hSw => by go_simp <;> (first | exact beq_iff_eq.1 (by assumption) | exact beq_eq_false_iff_ne.1 (by assumption) | omega)⟩) hL2 ?_
 simp only [Act.put,zA,zB,zC,zD,zE,zF]
 refine tk0 (i := 11) (v := .bool false) rfl hL2 ?_
 refine tk0 (i := 12) (v := .pointer (some ⟨w.heap.size, 1, none⟩)) rfl hL2 ?_
 simp only [Act.put,zA,zB,zC,zD,zE,zF]
 refine tk (i := 13) (v := .int .i64 b) rfl (Or.inl ⟨by kernel_rfl, fun w hSw => by have hcl := (fun w h => (Bk.cell (Held.a0 h) 1).trans P1.o) w hSw;go_simp⟩) hL2 ?_
 simp only [Act.put,zA,zB,zC,zD,zE,zF]
 change wpAnyH _ _ _ _ _ 12 #[true, true, true, true, true, true, true, true, true, true, true, true, true, true, false, false, false, false, false, false, false, false, false, false, false, false] _ _
 refine rd1 14 rfl fun K hK => ?_
 simp only [zA, zB, zC]
 go_wp2_with fail
 refine (rsec_eq b true _ k3.o).mono ?_
 rintro e wx2 ⟨rfl, rfl⟩
 dsimp only
 refine hK.out _ _ (hL2) (fun hL3 => ?_)
 clear hK K hL2
 refine tk0 (i := 15) (v := .bool true) rfl hL3 ?_
 refine tk0 (i := 16) (v := .pointer (some ⟨w.heap.size, 1, none⟩)) rfl hL3 ?_
 simp only [Act.put,zA,zB,zC,zD,zE,zF]
 refine tk (i := 17) (v := .int .i64 b) rfl (Or.inl ⟨by kernel_rfl, fun w hSw => by have hcl := (fun w h => (Bk.cell (Held.a0 h) 1).trans P1.o) w hSw;go_simp⟩) hL3 ?_
 refine tk0 (i := 18) (v := .pointer (some ⟨w.heap.size, 0, none⟩)) rfl hL3 ?_
 simp only [Act.put,zA,zB,zC,zD,zE,zF]
 refine tk (i := 19) (v := .int .i64 a) rfl (Or.inl ⟨by kernel_rfl, fun w hSw => by have hcl := (fun w h => (Bk.cell (Held.a0 h) 0).trans P0.o) w hSw;go_simp⟩) hL3 ?_
 refine tk (i := 20) (v := .bool false) rfl (Or.inl ⟨by kernel_rfl, fun w hSw => by go_simp <;> (first | exact beq_iff_eq.1 (by assumption) | exact beq_eq_false_iff_ne.1 (by assumption) | omega)⟩) hL3 ?_
 simp only [Act.put,zA,zB,zC,zD,zE,zF]
 refine tk0 (i := 21) (v := .bool false) rfl hL3 ?_
 refine tk0 (i := 22) (v := .bool false) rfl hL3 ?_
 simp only [Act.put,zA,zB,zC,zD,zE,zF]
 refine tk0 (i := 23) (v := .bool false) rfl hL3 ?_
 refine tk0 (i := 24) (v := .bool false) rfl hL3 ?_
 simp only [Act.put,zA,zB,zC,zD,zE,zF]
 refine tk0 (i := 25) (v := .bool false) rfl hL3 ?_
 simp only [Act.put,zA,zB,zC,zD,zE,zF]
 change wpAnyH _ _ _ _ _ 0 #[true, true, true, true, true, true, true, true, true, true, true, true, true, true, true, true, true, true, true, true, true, true, true, true, true, true] _ _
 refine wpAnyH_done (by kernel_rfl) ?_ _
 refine NoPanic.normal ?_
 have HFIN := jq7 (Held.f hL3)
 have HEND := jq7 hL3
 clear hL3
 go_wp2_with fail
 all_goals go_ret
 exact ⟨by kernel_rfl, HFIN.o⟩
theorem rright_6 (a b : Int) (s : List UInt8) (w : World) (hs : s.length = 32) (ha : (Lit.int .i64 a).wf = true) (hb : (Lit.int .i64 b).wf = true) (k0 : isH a b s = false) (k1 : Jq7 (secB a = true)) (k2 : (b == -1) = false) (k3 : Jq7 (secB b = true)) (k4 : (b == a) = false) :
  Calls Tryz.prog 47 #[.agg (PC a b s).toArray] w fun e w' => e = .returned (.bool true) ∧ Fr0 w w' := by
 have he := eq_ptr a b (-1) (-1) s Z hs Z_len ha hb (by decide) (by decide)
 change ∀ W, (Op.equalIn 10000 31 (.agg (PC a b s).toArray) (.agg HOLE)).run Tryz.prog W = .ok (isH a b s) W at he
 rw [k0] at he
 have heq := jq7 he
 have hz : (Tryz.prog.info? 31).map (·.size) = some (PC a b s).toArray.size := by rw [info_p, List.size_toArray, PC_length, hs]
 have HI := jq7 hz
 have p0 : (PC a b s).toArray[0]? = some (.int .i64 a) := rfl
 have p1 : (PC a b s).toArray[1]? = some (.int .i64 b) := rfl
 generalize (PC a b s).toArray = X at *
 have P0 := jq7 p0
 have P1 := jq7 p1
 have H0 : Jq7 (Held w [(w.heap.size, .cells X 31 (0, 0))] (w.alloc (.cells X 31))) := jq7 (Held.cons (Bk.new w _) (Held.nil (Fr.alloc (Fr.refl _ _) _)))
 clear hs ha hb hz he k0 p0 p1
 go_enter Tryz.func47, Tryz.ntmps47
 go_wp2_with fail
 refine wp_region_noPanic ?_
 refine wp_region_held_drew (S := (Held w [(w.heap.size, .cells X 31 (0, 0))])) (by kernel_rfl) (Held.drew H0.o) (fun hL0 => ?_)
 refine tk (i := 0) (v := .agg X) rfl (yields_row (by kernel_rfl) 31 _ rfl (w.heap.size) rfl 31 X (0, 0) _ (fun w h => Held.a0 h) Tryz.underlying31 rfl HI.o) hL0 ?_
 simp only [Act.put,zA,zB,zC,zD,zE,zF]
 change wpAnyH _ _ _ _ _ 25 #[true, false, false, false, false, false, false, false, false, false, false, false, false, false, false, false, false, false, false, false, false, false, false, false, false, false] _ _
 refine rd1 1 rfl fun K hK => ?_
 simp only [zA, zB, zC]
 go_wp2_with fail
 refine (rhole_calls _).mono ?_
 rintro e wx0 ⟨rfl, hfx0⟩
 dsimp only
 refine hK.out _ _ (Held.keep hfx0 hL0) (fun hL1 => ?_)
 clear hK K hL0
 refine tk (i := 2) (v := .bool false) rfl (Or.inl ⟨by kernel_rfl, fun w hSw => run_eql_op rfl rfl rfl guard_p heq.o w⟩) hL1 ?_
 refine tk0 (i := 3) (v := .bool false) rfl hL1 ?_
 simp only [Act.put,zA,zB,zC,zD,zE,zF]
 refine tk0 (i := 4) (v := .pointer (some ⟨w.heap.size, 0, none⟩)) rfl hL1 ?_
 refine tk (i := 5) (v := .int .i64 a) rfl (Or.inl ⟨by kernel_rfl, fun w hSw => by have hcl := (fun w h => (Bk.cell (Held.a0 h) 0).trans P0.o) w hSw;go_simp⟩) hL1 ?_
 simp only [Act.put,zA,zB,zC,zD,zE,zF]
 change wpAnyH _ _ _ _ _ 20 #[true, true, true, true, true, true, false, false, false, false, false, false, false, false, false, false, false, false, false, false, false, false, false, false, false, false] _ _
 refine rd1 6 rfl fun K hK => ?_
 simp only [zA, zB, zC]
 go_wp2_with fail
 refine (rsec_eq a true _ k1.o).mono ?_
 rintro e wx1 ⟨rfl, rfl⟩
 dsimp only
 refine hK.out _ _ (hL1) (fun hL2 => ?_)
 clear hK K hL1
 refine tk0 (i := 7) (v := .bool true) rfl hL2 ?_
 refine tk0 (i := 8) (v := .pointer (some ⟨w.heap.size, 1, none⟩)) rfl hL2 ?_
 simp only [Act.put,zA,zB,zC,zD,zE,zF]
 refine tk (i := 9) (v := .int .i64 b) rfl (Or.inl ⟨by kernel_rfl, fun w hSw => by have hcl := (fun w h => (Bk.cell (Held.a0 h) 1).trans P1.o) w hSw;go_simp⟩) hL2 ?_
 refine tk (i := 10) (v := .bool false) rfl (Or.inl ⟨by kernel_rfl, fun w hSw => by go_simp <;> (first | exact beq_iff_eq.1 (by assumption) | exact beq_eq_false_iff_ne.1 (by assumption) | omega)⟩) hL2 ?_
 simp only [Act.put,zA,zB,zC,zD,zE,zF]
 refine tk0 (i := 11) (v := .bool false) rfl hL2 ?_
 refine tk0 (i := 12) (v := .pointer (some ⟨w.heap.size, 1, none⟩)) rfl hL2 ?_
 simp only [Act.put,zA,zB,zC,zD,zE,zF]
 refine tk (i := 13) (v := .int .i64 b) rfl (Or.inl ⟨by kernel_rfl, fun w hSw => by have hcl := (fun w h => (Bk.cell (Held.a0 h) 1).trans P1.o) w hSw;go_simp⟩) hL2 ?_
 simp only [Act.put,zA,zB,zC,zD,zE,zF]
 change wpAnyH _ _ _ _ _ 12 #[true, true, true, true, true, true, true, true, true, true, true, true, true, true, false, false, false, false, false, false, false, false, false, false, false, false] _ _
 refine rd1 14 rfl fun K hK => ?_
 simp only [zA, zB, zC]
 go_wp2_with fail
 refine (rsec_eq b true _ k3.o).mono ?_
 rintro e wx2 ⟨rfl, rfl⟩
 dsimp only
 refine hK.out _ _ (hL2) (fun hL3 => ?_)
 clear hK K hL2
 refine tk0 (i := 15) (v := .bool true) rfl hL3 ?_
 refine tk0 (i := 16) (v := .pointer (some ⟨w.heap.size, 1, none⟩)) rfl hL3 ?_
 simp only [Act.put,zA,zB,zC,zD,zE,zF]
 refine tk (i := 17) (v := .int .i64 b) rfl (Or.inl ⟨by kernel_rfl, fun w hSw => by have hcl := (fun w h => (Bk.cell (Held.a0 h) 1).trans P1.o) w hSw;go_simp⟩) hL3 ?_
 refine tk0 (i := 18) (v := .pointer (some ⟨w.heap.size, 0, none⟩)) rfl hL3 ?_
 simp only [Act.put,zA,zB,zC,zD,zE,zF]
 refine tk (i := 19) (v := .int .i64 a) rfl (Or.inl ⟨by kernel_rfl, fun w hSw => by have hcl := (fun w h => (Bk.cell (Held.a0 h) 0).trans P0.o) w hSw;go_simp⟩) hL3 ?_
 refine tk (i := 20) (v := .bool true) rfl (Or.inl ⟨by kernel_rfl, fun w hSw => by go_simp <;> (first | exact beq_iff_eq.1 (by assumption) | exact beq_eq_false_iff_ne.1 (by assumption) | omega)⟩) hL3 ?_
 simp only [Act.put,zA,zB,zC,zD,zE,zF]
 refine tk0 (i := 21) (v := .bool true) rfl hL3 ?_
 refine tk0 (i := 22) (v := .bool true) rfl hL3 ?_
 simp only [Act.put,zA,zB,zC,zD,zE,zF]
 refine tk0 (i := 23) (v := .bool true) rfl hL3 ?_
 refine tk0 (i := 24) (v := .bool true) rfl hL3 ?_
 simp only [Act.put,zA,zB,zC,zD,zE,zF]
 refine tk0 (i := 25) (v := .bool true) rfl hL3 ?_
 simp only [Act.put,zA,zB,zC,zD,zE,zF]
 change wpAnyH _ _ _ _ _ 0 #[true, true, true, true, true, true, true, true, true, true, true, true, true, true, true, true, true, true, true, true, true, true, true, true, true, true] _ _
 refine wpAnyH_done (by kernel_rfl) ?_ _
 refine NoPanic.normal ?_
 have HFIN := jq7 (Held.f hL3)
 have HEND := jq7 hL3
 clear hL3
 go_wp2_with fail
 all_goals go_ret
 exact ⟨by kernel_rfl, HFIN.o⟩

theorem rright_calls (a b : Int) (s : List UInt8) (w : World) (hs : s.length = 32) (ha : (Lit.int .i64 a).wf = true) (hb : (Lit.int .i64 b).wf = true) :
  Calls Tryz.prog 47 #[.agg (PC a b s).toArray] w fun e w' => e = .returned (.bool (rightB a b s)) ∧ Fr0 w w' := by
 unfold rightB
 cases k0 : isH a b s with
 | true => exact rright_1 a b s w hs ha hb k0
 | false =>
  cases k1 : secB a with
  | false => simpa using rright_2 a b s w hs ha hb k0 (jq7 k1)
  | true =>
   by_cases hb1 : b = -1
   ·have := rright_3 a b s w hs ha hb k0 (jq7 k1) (by rw [beq_iff_eq];exact hb1)
    simpa [hb1] using this
   ·have k2 : (b == -1) = false := by rw [beq_eq_false_iff_ne];exact hb1
    cases k3 : secB b with
    | false => simpa [hb1] using rright_4 a b s w hs ha hb k0 (jq7 k1) k2 (jq7 k3)
    | true =>
     by_cases hba : b = a
     ·rw [show decide (b = -1) = false from decide_eq_false hb1, show decide (b = a) = true from decide_eq_true hba]
      exact rright_5 a b s w hs ha hb k0 (jq7 k1) k2 (jq7 k3) (by rw [beq_iff_eq];exact hba)
     ·simpa [hb1, hba] using rright_6 a b s w hs ha hb k0 (jq7 k1) k2 (jq7 k3) (by rw [beq_eq_false_iff_ne];exact hba)

end Go.Proofs.YtmkmpfnadcmcoaaGreatDoor.PtrRRight
