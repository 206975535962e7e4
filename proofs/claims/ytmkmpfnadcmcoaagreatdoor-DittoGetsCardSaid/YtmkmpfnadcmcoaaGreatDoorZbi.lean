/- The theorems that the claim uses, text behind text (part 35). -/
import Derived.Test.YtmkmpfnadcmcoaaGreatDoorZbd
import Derived.Test.YtmkmpfnadcmcoaaGreatDoorZbh
set_option maxRecDepth 100000
set_option maxHeartbeats 8000000
set_option linter.unusedVariables false
set_option linter.unusedSimpArgs false
namespace Go.Proofs.YtmkmpfnadcmcoaaGreatDoor.DitRGet
open Go Go.RowKit K EqKit ArrKit HeldKit GKit GRow DiskKit RmKit MapKit ShaStep RmRight RmRRight RmTab RmPut RmAsk RmSame DiskRRead RmRead RmReads DiskAct RmSpare RmKeep RmAliveP RmWrX RmWrite RmPair RowG PtrKit DitKit DitAsk DitHome DitGet DitRHome
theorem rget_calls (p r : Nat) (d : Dk) (m : Rm) (a b : Int) (s : List UInt8) (w : World) (hok : d.ok) (hm : m.ok) (hps : PS w p r d m) (hrp : r ≠ p) (hs : s.length = 32) (ha : (Lit.int .i64 a).wf = true) (hb : (Lit.int .i64 b).wf = true) (hC : d.C.length ≤ 900) : Calls Tryz.prog 10 #[.pointer (some ⟨p, 0, none⟩), .pointer (some ⟨r, 0, none⟩), .agg (PC a b s).toArray] w fun e w' => e = .returned (.tuple #[.agg ((getX d m a b s).1.1.map B).toArray, .int .i64 (getX d m a b s).1.2.1, .int .i64 (getX d m a b s).1.2.2]) ∧ PS w' p r (getX d m a b s).2.1 (getX d m a b s).2.2 ∧ Fr (fun i => i = p ∨ i = r) w w' := by
 have hps2 := hps
 obtain ⟨⟨sa, sc, ca, cc, hv⟩, ra, rc, hb1, hrv⟩ := hps2
 have HHO : Jq7 (∀ W, Fr0 w W → Calls Tryz.prog 25 #[.agg (dval d sa sc ca cc), .agg (rval m ra rc), .agg (PC a b s).toArray] W fun e w' => e = .returned (.bool (homeB d m a b s)) ∧ Fr0 W w') := jq7 (fun W f => rhome_calls d sa sc ca cc m ra rc a b s W hm (hv.v.keep f) (hrv.keep f) hs ha hb)
 have HGO : Jq7 (∀ q W, (Lit.int .i64 q).wf = true → Fr0 w W → Calls Tryz.prog 26 #[.pointer (some ⟨p, 0, none⟩), .agg (rval m ra rc), .agg (PC a b s).toArray, .int .i64 q] W fun e w' => e = .returned (.tuple #[.agg ((rdG d m a b s q).1.map B).toArray, .bool (rdG d m a b s q).2]) ∧ Fr0 W w') := jq7 (fun q W hq f => DitGood.good_calls p d sa sc ca cc m ra rc a b q s W hok hm (hv.keep f) (hrv.keep f) hs ha hb hq)
 have HC3 : Jq7 (∀ W, Fr0 w W → W.cell? ⟨p, 3, none⟩ = some (.bool d.down)) := jq7 (fun W f => Bk.cell (hv.keep f).blk 3)
 have hlb := rdG_len hok m a b s b
 have hla := rdG_len hok m a b s a
 have HHE : Jq7 (∀ W, Fr0 w W → Calls Tryz.prog 27 #[.pointer (some ⟨p, 0, none⟩), .pointer (some ⟨r, 0, none⟩), .int .i64 a, .agg ((rdG d m a b s b).1.map B).toArray] W fun e w' => e = .returned (.tuple #[.int .i64 (healX d m a (rdG d m a b s b).1).1, .int .i64 (healX d m a (rdG d m a b s b).1).2.1]) ∧ PS w' p r (healX d m a (rdG d m a b s b).1).2.2.1 (healX d m a (rdG d m a b s b).1).2.2.2 ∧ Fr (fun i => i = p ∨ i = r) W w') := jq7 (fun W f => rheal_calls p r d m a _ W hok hm (hps.keep0 f) hrp ha hlb hC)
 have HPS := jq7 hps
 have HPW : Jq7 (p < w.heap.size ∧ r < w.heap.size) := jq7 ⟨Bk.lt hv.blk, Bk.lt hb1⟩
 have HGA := jq7 (fun W => HGO.o a W ha)
 have HGB := jq7 (fun W => HGO.o b W hb)
 have HIP := jq7 (info_ptr a b hs)
 have HID : Jq7 ((Tryz.prog.info? 25).map (·.size) = some (dval d sa sc ca cc).size) := jq7 info_d
 have HIR : Jq7 ((Tryz.prog.info? 28).map (·.size) = some (rval m ra rc).size) := jq7 (info_r _ _)
 have HIA := jq7 (info_l hla)
 have HSA := jq7 (size_l hla)
 have HOA := jq7 (one_l (rdG d m a b s a).1)
 have HIB := jq7 (info_l hlb)
 have HSB := jq7 (size_l hlb)
 have HOB := jq7 (one_l (rdG d m a b s b).1)
 obtain ⟨LA, hLA⟩ : ∃ z, ((rdG d m a b s a).1.map B).toArray = z := ⟨_, rfl⟩
 obtain ⟨LBB, hLB⟩ : ∃ z, ((rdG d m a b s b).1.map B).toArray = z := ⟨_, rfl⟩
 rw [hLA] at HGA HIA HSA HOA
 rw [hLB] at HGB HHE HIB HSB HOB
 have HLA := jq7 hLA
 have HLB := jq7 hLB
 clear hLA hLB HGO
 have P0 : Jq7 ((PC a b s).toArray[0]? = some (.int .i64 a)) := jq7 rfl
 have P1 : Jq7 ((PC a b s).toArray[1]? = some (.int .i64 b)) := jq7 rfl
 have HZI : Jq7 ((Tryz.prog.info? 36).map (·.size) = some ZB.size) := jq7 (by have := info_l (show Z128.length = 128 by simp [Z128]); rwa [Z128_cells] at this)
 have HZO : Jq7 (ZB.all (·.oneCell') = true) := jq7 (by have := one_l Z128; rwa [Z128_cells] at this)
 have hhm : homeB d m a b s = true → (PtrAsk.isH a b s = true ↔ a = -1) := fun h1 => by
  unfold homeB at h1
  simp only [Bool.and_eq_true] at h1
  have h3 := h1.2.2.1
  unfold PtrAsk.rightB at h3
  constructor
  ·intro h2
   unfold PtrAsk.isH at h2
   exact (of_decide_eq_true h2).1
  ·intro h2
   cases h4 : PtrAsk.isH a b s with
   | true => rfl
   | false =>
    rw [h4, Bool.false_or, Bool.and_eq_true] at h3
    have h5 := h3.1
    unfold PtrAsk.secB at h5
    have := of_decide_eq_true h5
    omega
 have hzb := zero_bl
 have hf1 : ∀ X : Array Value, Fr0 w (((w.alloc (.cells X 31)).alloc (.cells ZB 36)).alloc (.cells ZB 36)) := fun X => Fr.alloc (Fr.alloc (Fr.alloc (Fr.refl _ _) _) _) _
 have HD4 := fun X : Array Value => (ArrKit.Fr.row (hf1 X) (w.heap.size + 1 + 1) ZB (.inl (by omega))).keep hv.blk (fun h => h)
 have HR4 := fun X : Array Value => (ArrKit.Fr.row (hf1 X) (w.heap.size + 1 + 1) ZB (.inl (by omega))).keep hb1 (fun h => h)
 unfold getX
 clear hok hm hps hrp hs ha hb hC hlb hla hv hb1 hrv
 generalize (PC a b s).toArray = X at *
 replace HD4 := jq7 (HD4 X)
 replace HR4 := jq7 (HR4 X)
 generalize dval d sa sc ca cc = DV0 at *
 generalize rval m ra rc = RV0 at *
 have hs1 : (w.alloc (.cells X 31)).heap.size = w.heap.size + 1 := by simp
 have hs2 : ((w.alloc (.cells X 31)).alloc (.cells ZB 36)).heap.size = w.heap.size + 1 + 1 := by simp
 have HN3 : Jq7 (Bk (((w.alloc (.cells X 31)).alloc (.cells ZB 36)).alloc (.cells ZB 36)) (w.heap.size + 1 + 1) ZB 36) := jq7 (by have := Bk.new ((w.alloc (.cells X 31)).alloc (.cells ZB 36)) (.cells ZB 36); rwa [hs2] at this)
 have HZ3 : Jq7 (Bk (((w.alloc (.cells X 31)).alloc (.cells ZB 36)).alloc (.cells ZB 36)) (w.heap.size + 1) ZB 36) := jq7 (Bk.alloc (by have := Bk.new (w.alloc (.cells X 31)) (.cells ZB 36); rwa [hs1] at this) _)
 have HX3 : Jq7 (Bk (((w.alloc (.cells X 31)).alloc (.cells ZB 36)).alloc (.cells ZB 36)) w.heap.size X 31) := jq7 (Bk.alloc (Bk.alloc (Bk.new w _) _) _)
 have HN4 : Jq7 (Bk ((((w.alloc (.cells X 31)).alloc (.cells ZB 36)).alloc (.cells ZB 36)).setRow (w.heap.size + 1 + 1) ZB) (w.heap.size + 1 + 1) ZB 36) := jq7 (ArrKit.Bk.row HN3.o _)
 have HZ4 : Jq7 (Bk ((((w.alloc (.cells X 31)).alloc (.cells ZB 36)).alloc (.cells ZB 36)).setRow (w.heap.size + 1 + 1) ZB) (w.heap.size + 1) ZB 36) := jq7 (ArrKit.Bk.rowOther HZ3.o _ (by omega))
 have HX4 : Jq7 (Bk ((((w.alloc (.cells X 31)).alloc (.cells ZB 36)).alloc (.cells ZB 36)).setRow (w.heap.size + 1 + 1) ZB) w.heap.size X 31) := jq7 (ArrKit.Bk.rowOther HX3.o _ (by omega))
 have HF4 : Jq7 (Fr0 w ((((w.alloc (.cells X 31)).alloc (.cells ZB 36)).alloc (.cells ZB 36)).setRow (w.heap.size + 1 + 1) ZB)) := jq7 (ArrKit.Fr.row (hf1 X) _ _ (.inl (by omega)))
 clear hs1 hs2 hf1 HZ3 HX3
 obtain ⟨ga, hga⟩ : ∃ z, (rdG d m a b s a).2 = z := ⟨_, rfl⟩
 obtain ⟨gb, hgb⟩ : ∃ z, (rdG d m a b s b).2 = z := ⟨_, rfl⟩
 rw [hga] at HGA
 rw [hgb] at HGB
 rw [hga, hgb]
 clear hga hgb
 obtain ⟨⟨hn, he, D1, M1⟩, hH⟩ : ∃ z, healX d m a (rdG d m a b s b).1 = z := ⟨_, rfl⟩
 rw [hH] at HHE
 rw [hH]
 clear hH
 dsimp only at HHE ⊢
 cases hh : homeB d m a b s with
 | false =>
  rw [if_pos (show false = false from rfl)]
  rw [hh] at HHO
  clear hh hhm
  go_enter Tryz.func10, Tryz.ntmps10
  go_wp2_with (first | ((with_reducible show wpList _ _ _ (qo _ (Op.build 36 _) _ _ _ _ _) _ _); refine build_ev rfl 36 _ rfl [] (by simp) ZB built_zb ?_) | ((with_reducible show wpList _ _ _ (qo _ (Op.store 36 _ _) _ _ _ _ _) _ _); refine wpList_store_row rfl 36 _ _ rfl (w.heap.size + 1 + 1) ZB rfl rfl 36 ZB HN3.o HZI.o rfl HZO.o ?_))
  refine wp_region_noPanic ?_
  refine wp_region_held_drew (S := (fun W : World => Bk W w.heap.size X 31 ∧ Bk W p DV0 25 ∧ Bk W r RV0 28 ∧ Bk W (w.heap.size + 1) ZB 36 ∧ Bk W (w.heap.size + 1 + 1) ZB 36 ∧ Fr0 w W)) (by kernel_rfl) (⟨Fr.keep (Fr.drew (Fr.refl (fun _ => False) _)) HX4.o (fun h => h), Fr.keep (Fr.drew (Fr.refl (fun _ => False) _)) HD4.o (fun h => h), Fr.keep (Fr.drew (Fr.refl (fun _ => False) _)) HR4.o (fun h => h), Fr.keep (Fr.drew (Fr.refl (fun _ => False) _)) HZ4.o (fun h => h), Fr.keep (Fr.drew (Fr.refl (fun _ => False) _)) HN4.o (fun h => h), Fr.drew HF4.o⟩) (fun hL0 => ?_)
  refine tk0 (i := 0) (v := .pointer (some ⟨p, 0, none⟩)) rfl hL0 ?_
  refine tk0 (i := 1) (v := .pointer (some ⟨p, 0, none⟩)) rfl hL0 ?_
  simp only [Act.put, zA, zB, zC, zD, zE, zF]
  refine tk (i := 2) (v := .agg DV0) rfl (yields_row (by kernel_rfl) 25 _ rfl (p) rfl 25 DV0 (0, 0) _ (fun W h => h.2.1) Tryz.underlying25 rfl HID.o) hL0 ?_
  refine tk0 (i := 3) (v := .pointer (some ⟨r, 0, none⟩)) rfl hL0 ?_
  simp only [Act.put, zA, zB, zC, zD, zE, zF]
  refine tk0 (i := 4) (v := .pointer (some ⟨r, 0, none⟩)) rfl hL0 ?_
  refine tk (i := 5) (v := .agg RV0) rfl (yields_row (by kernel_rfl) 28 _ rfl (r) rfl 28 RV0 (0, 0) _ (fun W h => h.2.2.1) Tryz.underlying28 rfl HIR.o) hL0 ?_
  simp only [Act.put, zA, zB, zC, zD, zE, zF]
  refine tk (i := 6) (v := .agg X) rfl (yields_row (by kernel_rfl) 31 _ rfl (w.heap.size) rfl 31 X (0, 0) _ (fun W h => h.1) Tryz.underlying31 rfl HIP.o) hL0 ?_
  simp only [Act.put, zA, zB, zC, zD, zE, zF]
  change wpAnyH _ _ _ _ _ 2 #[true, true, true, true, true, true, true, false, false] _ _
  refine HeldKit.r1 7 rfl fun K hK => ?_
  simp only [zA, zB, zC]
  go_wp2_with fail
  refine (HHO.o _ (hL0).2.2.2.2.2).mono ?_
  rintro e wx0 ⟨rfl, hfx0⟩
  dsimp only
  refine hK.out _ _ (⟨Fr.keep hfx0 (hL0).1 (fun h => h), Fr.keep hfx0 (hL0).2.1 (fun h => h), Fr.keep hfx0 (hL0).2.2.1 (fun h => h), Fr.keep hfx0 (hL0).2.2.2.1 (fun h => h), Fr.keep hfx0 (hL0).2.2.2.2.1 (fun h => h), (hL0).2.2.2.2.2.then0 hfx0⟩) (fun hL1 => ?_)
  clear hK K hL0
  refine tk (i := 8) (v := .bool true) rfl (Or.inl ⟨by kernel_rfl, fun w hSw => by go_simp <;> (first | exact beq_iff_eq.1 (by assumption) | exact beq_eq_false_iff_ne.1 (by assumption) | omega)⟩) hL1 ?_
  simp only [Act.put, zA, zB, zC, zD, zE, zF]
  change wpAnyH _ _ _ _ _ 0 #[true, true, true, true, true, true, true, true, true] _ _
  refine wpAnyH_done (by kernel_rfl) ?_ _
  refine NoPanic.normal ?_
  have HEND := jq7 hL1
  clear hL1
  go_wp2_with (first | ((with_reducible show wpList _ _ _ (qo _ (Op.load 36 _) _ _ _ _ _) _ _); refine lr 36 (w.heap.size + 1 + 1) ZB HEND.o.2.2.2.2.1 HZI.o ?_) | ((with_reducible show wpList _ _ _ (qo _ (Op.store 36 _ _) _ _ _ _ _) _ _); refine wpList_store_row rfl 36 _ _ rfl (w.heap.size + 1) ZB rfl rfl 36 ZB HEND.o.2.2.2.1 HZI.o rfl HZO.o ?_))
  refine fin_ctt (w.heap.size + 1) 36 ZB (.int .i64 0) (.int .i64 1) (by rfl) (by rfl) (by rfl) (by rfl) (by rfl) Tryz.underlying36 (by rfl) HZI.o (ArrKit.Bk.row HEND.o.2.2.2.1 _) ?_
  exact ⟨(congrArg (fun z => Ending.returned (.tuple #[.agg z, .int .i64 0, .int .i64 1])) Z128_cells.symm), HPS.o.keep0 (ArrKit.Fr.row HEND.o.2.2.2.2.2 (w.heap.size + 1) _ (.inl (by omega))), Fr.weaken (ArrKit.Fr.row HEND.o.2.2.2.2.2 (w.heap.size + 1) _ (.inl (by omega))) (fun _ _ h => h.elim)⟩
 | true =>
  rw [if_neg (show ¬ true = false by decide)]
  rw [hh] at HHO
  have hiff := hhm hh
  clear hh hhm
  cases hi : PtrAsk.isH a b s with
  | true =>
   have hab : a = -1 := hiff.1 hi
   rw [if_pos (show true = true from rfl)]
   clear hi hiff
   subst hab
   go_enter Tryz.func10, Tryz.ntmps10
   go_wp2_with (first | ((with_reducible show wpList _ _ _ (qo _ (Op.build 36 _) _ _ _ _ _) _ _); refine build_ev rfl 36 _ rfl [] (by simp) ZB built_zb ?_) | ((with_reducible show wpList _ _ _ (qo _ (Op.store 36 _ _) _ _ _ _ _) _ _); refine wpList_store_row rfl 36 _ _ rfl (w.heap.size + 1 + 1) ZB rfl rfl 36 ZB HN3.o HZI.o rfl HZO.o ?_))
   refine wp_region_noPanic ?_
   refine wp_region_held_drew (S := (fun W : World => Bk W w.heap.size X 31 ∧ Bk W p DV0 25 ∧ Bk W r RV0 28 ∧ Bk W (w.heap.size + 1) ZB 36 ∧ Bk W (w.heap.size + 1 + 1) ZB 36 ∧ Fr0 w W)) (by kernel_rfl) (⟨Fr.keep (Fr.drew (Fr.refl (fun _ => False) _)) HX4.o (fun h => h), Fr.keep (Fr.drew (Fr.refl (fun _ => False) _)) HD4.o (fun h => h), Fr.keep (Fr.drew (Fr.refl (fun _ => False) _)) HR4.o (fun h => h), Fr.keep (Fr.drew (Fr.refl (fun _ => False) _)) HZ4.o (fun h => h), Fr.keep (Fr.drew (Fr.refl (fun _ => False) _)) HN4.o (fun h => h), Fr.drew HF4.o⟩) (fun hL0 => ?_)
   refine tk0 (i := 0) (v := .pointer (some ⟨p, 0, none⟩)) rfl hL0 ?_
   refine tk0 (i := 1) (v := .pointer (some ⟨p, 0, none⟩)) rfl hL0 ?_
   simp only [Act.put, zA, zB, zC, zD, zE, zF]
   refine tk (i := 2) (v := .agg DV0) rfl (yields_row (by kernel_rfl) 25 _ rfl (p) rfl 25 DV0 (0, 0) _ (fun W h => h.2.1) Tryz.underlying25 rfl HID.o) hL0 ?_
   refine tk0 (i := 3) (v := .pointer (some ⟨r, 0, none⟩)) rfl hL0 ?_
   simp only [Act.put, zA, zB, zC, zD, zE, zF]
   refine tk0 (i := 4) (v := .pointer (some ⟨r, 0, none⟩)) rfl hL0 ?_
   refine tk (i := 5) (v := .agg RV0) rfl (yields_row (by kernel_rfl) 28 _ rfl (r) rfl 28 RV0 (0, 0) _ (fun W h => h.2.2.1) Tryz.underlying28 rfl HIR.o) hL0 ?_
   simp only [Act.put, zA, zB, zC, zD, zE, zF]
   refine tk (i := 6) (v := .agg X) rfl (yields_row (by kernel_rfl) 31 _ rfl (w.heap.size) rfl 31 X (0, 0) _ (fun W h => h.1) Tryz.underlying31 rfl HIP.o) hL0 ?_
   simp only [Act.put, zA, zB, zC, zD, zE, zF]
   change wpAnyH _ _ _ _ _ 2 #[true, true, true, true, true, true, true, false, false] _ _
   refine HeldKit.r1 7 rfl fun K hK => ?_
   simp only [zA, zB, zC]
   go_wp2_with fail
   refine (HHO.o _ (hL0).2.2.2.2.2).mono ?_
   rintro e wx0 ⟨rfl, hfx0⟩
   dsimp only
   refine hK.out _ _ (⟨Fr.keep hfx0 (hL0).1 (fun h => h), Fr.keep hfx0 (hL0).2.1 (fun h => h), Fr.keep hfx0 (hL0).2.2.1 (fun h => h), Fr.keep hfx0 (hL0).2.2.2.1 (fun h => h), Fr.keep hfx0 (hL0).2.2.2.2.1 (fun h => h), (hL0).2.2.2.2.2.then0 hfx0⟩) (fun hL1 => ?_)
   clear hK K hL0
   refine tk (i := 8) (v := .bool false) rfl (Or.inl ⟨by kernel_rfl, fun w hSw => by go_simp <;> (first | exact beq_iff_eq.1 (by assumption) | exact beq_eq_false_iff_ne.1 (by assumption) | omega)⟩) hL1 ?_
   simp only [Act.put, zA, zB, zC, zD, zE, zF]
   change wpAnyH _ _ _ _ _ 0 #[true, true, true, true, true, true, true, true, true] _ _
   refine wpAnyH_done (by kernel_rfl) ?_ _
   refine NoPanic.normal ?_
   have HEND := jq7 hL1
   clear hL1
   have q0 := (Bk.cell HEND.o.1 0).trans P0.o
   have q1 := (Bk.cell HEND.o.1 1).trans P1.o
   have c3 := HC3.o _ HEND.o.2.2.2.2.2
   go_wp2_with (first | ((with_reducible show wpList _ _ _ (qo _ (Op.load 36 _) _ _ _ _ _) _ _); refine lr 36 (w.heap.size + 1 + 1) ZB HEND.o.2.2.2.2.1 HZI.o ?_) | ((with_reducible show wpList _ _ _ (qo _ (Op.store 36 _ _) _ _ _ _ _) _ _); refine wpList_store_row rfl 36 _ _ rfl (w.heap.size + 1) ZB rfl rfl 36 ZB HEND.o.2.2.2.1 HZI.o rfl HZO.o ?_))
   refine fin_ctt (w.heap.size + 1) 36 ZB (.int .i64 0) (.int .i64 0) (by rfl) (by rfl) (by rfl) (by rfl) (by rfl) Tryz.underlying36 (by rfl) HZI.o (ArrKit.Bk.row HEND.o.2.2.2.1 _) ?_
   exact ⟨(congrArg (fun z => Ending.returned (.tuple #[.agg z, .int .i64 0, .int .i64 0])) Z128_cells.symm), HPS.o.keep0 (ArrKit.Fr.row HEND.o.2.2.2.2.2 (w.heap.size + 1) _ (.inl (by omega))), Fr.weaken (ArrKit.Fr.row HEND.o.2.2.2.2.2 (w.heap.size + 1) _ (.inl (by omega))) (fun _ _ h => h.elim)⟩
  | false =>
   have hab : (a == -1) = false := by rw [beq_eq_false_iff_ne]; intro e; have := hiff.2 e; rw [hi] at this; cases this
   rw [if_neg (show ¬ false = true by decide)]
   clear hi hiff
   cases hd : d.down with
   | true =>
    rw [if_pos (show true = true from rfl)]
    rw [hd] at HC3
    clear hd
    go_enter Tryz.func10, Tryz.ntmps10
    go_wp2_with (first | ((with_reducible show wpList _ _ _ (qo _ (Op.build 36 _) _ _ _ _ _) _ _); refine build_ev rfl 36 _ rfl [] (by simp) ZB built_zb ?_) | ((with_reducible show wpList _ _ _ (qo _ (Op.store 36 _ _) _ _ _ _ _) _ _); refine wpList_store_row rfl 36 _ _ rfl (w.heap.size + 1 + 1) ZB rfl rfl 36 ZB HN3.o HZI.o rfl HZO.o ?_))
    refine wp_region_noPanic ?_
    refine wp_region_held_drew (S := (fun W : World => Bk W w.heap.size X 31 ∧ Bk W p DV0 25 ∧ Bk W r RV0 28 ∧ Bk W (w.heap.size + 1) ZB 36 ∧ Bk W (w.heap.size + 1 + 1) ZB 36 ∧ Fr0 w W)) (by kernel_rfl) (⟨Fr.keep (Fr.drew (Fr.refl (fun _ => False) _)) HX4.o (fun h => h), Fr.keep (Fr.drew (Fr.refl (fun _ => False) _)) HD4.o (fun h => h), Fr.keep (Fr.drew (Fr.refl (fun _ => False) _)) HR4.o (fun h => h), Fr.keep (Fr.drew (Fr.refl (fun _ => False) _)) HZ4.o (fun h => h), Fr.keep (Fr.drew (Fr.refl (fun _ => False) _)) HN4.o (fun h => h), Fr.drew HF4.o⟩) (fun hL0 => ?_)
    refine tk0 (i := 0) (v := .pointer (some ⟨p, 0, none⟩)) rfl hL0 ?_
    refine tk0 (i := 1) (v := .pointer (some ⟨p, 0, none⟩)) rfl hL0 ?_
    simp only [Act.put, zA, zB, zC, zD, zE, zF]
    refine tk (i := 2) (v := .agg DV0) rfl (yields_row (by kernel_rfl) 25 _ rfl (p) rfl 25 DV0 (0, 0) _ (fun W h => h.2.1) Tryz.underlying25 rfl HID.o) hL0 ?_
    refine tk0 (i := 3) (v := .pointer (some ⟨r, 0, none⟩)) rfl hL0 ?_
    simp only [Act.put, zA, zB, zC, zD, zE, zF]
    refine tk0 (i := 4) (v := .pointer (some ⟨r, 0, none⟩)) rfl hL0 ?_
    refine tk (i := 5) (v := .agg RV0) rfl (yields_row (by kernel_rfl) 28 _ rfl (r) rfl 28 RV0 (0, 0) _ (fun W h => h.2.2.1) Tryz.underlying28 rfl HIR.o) hL0 ?_
    simp only [Act.put, zA, zB, zC, zD, zE, zF]
    refine tk (i := 6) (v := .agg X) rfl (yields_row (by kernel_rfl) 31 _ rfl (w.heap.size) rfl 31 X (0, 0) _ (fun W h => h.1) Tryz.underlying31 rfl HIP.o) hL0 ?_
    simp only [Act.put, zA, zB, zC, zD, zE, zF]
    change wpAnyH _ _ _ _ _ 2 #[true, true, true, true, true, true, true, false, false] _ _
    refine HeldKit.r1 7 rfl fun K hK => ?_
    simp only [zA, zB, zC]
    go_wp2_with fail
    refine (HHO.o _ (hL0).2.2.2.2.2).mono ?_
    rintro e wx0 ⟨rfl, hfx0⟩
    dsimp only
    refine hK.out _ _ (⟨Fr.keep hfx0 (hL0).1 (fun h => h), Fr.keep hfx0 (hL0).2.1 (fun h => h), Fr.keep hfx0 (hL0).2.2.1 (fun h => h), Fr.keep hfx0 (hL0).2.2.2.1 (fun h => h), Fr.keep hfx0 (hL0).2.2.2.2.1 (fun h => h), (hL0).2.2.2.2.2.then0 hfx0⟩) (fun hL1 => ?_)
    clear hK K hL0
    refine tk (i := 8) (v := .bool false) rfl (Or.inl ⟨by kernel_rfl, fun w hSw => by go_simp <;> (first | exact beq_iff_eq.1 (by assumption) | exact beq_eq_false_iff_ne.1 (by assumption) | omega)⟩) hL1 ?_
    simp only [Act.put, zA, zB, zC, zD, zE, zF]
    change wpAnyH _ _ _ _ _ 0 #[true, true, true, true, true, true, true, true, true] _ _
    refine wpAnyH_done (by kernel_rfl) ?_ _
    refine NoPanic.normal ?_
    have HEND := jq7 hL1
    clear hL1
    have q0 := (Bk.cell HEND.o.1 0).trans P0.o
    have q1 := (Bk.cell HEND.o.1 1).trans P1.o
    have c3 := HC3.o _ HEND.o.2.2.2.2.2
    go_wp2_with (first | ((with_reducible show wpList _ _ _ (qo _ (Op.load 36 _) _ _ _ _ _) _ _); refine lr 36 (w.heap.size + 1 + 1) ZB HEND.o.2.2.2.2.1 HZI.o ?_) | ((with_reducible show wpList _ _ _ (qo _ (Op.store 36 _ _) _ _ _ _ _) _ _); refine wpList_store_row rfl 36 _ _ rfl (w.heap.size + 1) ZB rfl rfl 36 ZB HEND.o.2.2.2.1 HZI.o rfl HZO.o ?_))
    refine fin_ctt (w.heap.size + 1) 36 ZB (.int .i64 0) (.int .i64 3) (by rfl) (by rfl) (by rfl) (by rfl) (by rfl) Tryz.underlying36 (by rfl) HZI.o (ArrKit.Bk.row HEND.o.2.2.2.1 _) ?_
    exact ⟨(congrArg (fun z => Ending.returned (.tuple #[.agg z, .int .i64 0, .int .i64 3])) Z128_cells.symm), HPS.o.keep0 (ArrKit.Fr.row HEND.o.2.2.2.2.2 (w.heap.size + 1) _ (.inl (by omega))), Fr.weaken (ArrKit.Fr.row HEND.o.2.2.2.2.2 (w.heap.size + 1) _ (.inl (by omega))) (fun _ _ h => h.elim)⟩
   | false =>
    rw [if_neg (show ¬ false = true by decide)]
    rw [hd] at HC3
    clear hd
    go_enter Tryz.func10, Tryz.ntmps10
    go_wp2_with (first | ((with_reducible show wpList _ _ _ (qo _ (Op.build 36 _) _ _ _ _ _) _ _); refine build_ev rfl 36 _ rfl [] (by simp) ZB built_zb ?_) | ((with_reducible show wpList _ _ _ (qo _ (Op.store 36 _ _) _ _ _ _ _) _ _); refine wpList_store_row rfl 36 _ _ rfl (w.heap.size + 1 + 1) ZB rfl rfl 36 ZB HN3.o HZI.o rfl HZO.o ?_))
    refine wp_region_noPanic ?_
    refine wp_region_held_drew (S := (fun W : World => Bk W w.heap.size X 31 ∧ Bk W p DV0 25 ∧ Bk W r RV0 28 ∧ Bk W (w.heap.size + 1) ZB 36 ∧ Bk W (w.heap.size + 1 + 1) ZB 36 ∧ Fr0 w W)) (by kernel_rfl) (⟨Fr.keep (Fr.drew (Fr.refl (fun _ => False) _)) HX4.o (fun h => h), Fr.keep (Fr.drew (Fr.refl (fun _ => False) _)) HD4.o (fun h => h), Fr.keep (Fr.drew (Fr.refl (fun _ => False) _)) HR4.o (fun h => h), Fr.keep (Fr.drew (Fr.refl (fun _ => False) _)) HZ4.o (fun h => h), Fr.keep (Fr.drew (Fr.refl (fun _ => False) _)) HN4.o (fun h => h), Fr.drew HF4.o⟩) (fun hL0 => ?_)
    refine tk0 (i := 0) (v := .pointer (some ⟨p, 0, none⟩)) rfl hL0 ?_
    refine tk0 (i := 1) (v := .pointer (some ⟨p, 0, none⟩)) rfl hL0 ?_
    simp only [Act.put, zA, zB, zC, zD, zE, zF]
    refine tk (i := 2) (v := .agg DV0) rfl (yields_row (by kernel_rfl) 25 _ rfl (p) rfl 25 DV0 (0, 0) _ (fun W h => h.2.1) Tryz.underlying25 rfl HID.o) hL0 ?_
    refine tk0 (i := 3) (v := .pointer (some ⟨r, 0, none⟩)) rfl hL0 ?_
    simp only [Act.put, zA, zB, zC, zD, zE, zF]
    refine tk0 (i := 4) (v := .pointer (some ⟨r, 0, none⟩)) rfl hL0 ?_
    refine tk (i := 5) (v := .agg RV0) rfl (yields_row (by kernel_rfl) 28 _ rfl (r) rfl 28 RV0 (0, 0) _ (fun W h => h.2.2.1) Tryz.underlying28 rfl HIR.o) hL0 ?_
    simp only [Act.put, zA, zB, zC, zD, zE, zF]
    refine tk (i := 6) (v := .agg X) rfl (yields_row (by kernel_rfl) 31 _ rfl (w.heap.size) rfl 31 X (0, 0) _ (fun W h => h.1) Tryz.underlying31 rfl HIP.o) hL0 ?_
    simp only [Act.put, zA, zB, zC, zD, zE, zF]
    change wpAnyH _ _ _ _ _ 2 #[true, true, true, true, true, true, true, false, false] _ _
    refine HeldKit.r1 7 rfl fun K hK => ?_
    simp only [zA, zB, zC]
    go_wp2_with fail
    refine (HHO.o _ (hL0).2.2.2.2.2).mono ?_
    rintro e wx0 ⟨rfl, hfx0⟩
    dsimp only
    refine hK.out _ _ (⟨Fr.keep hfx0 (hL0).1 (fun h => h), Fr.keep hfx0 (hL0).2.1 (fun h => h), Fr.keep hfx0 (hL0).2.2.1 (fun h => h), Fr.keep hfx0 (hL0).2.2.2.1 (fun h => h), Fr.keep hfx0 (hL0).2.2.2.2.1 (fun h => h), (hL0).2.2.2.2.2.then0 hfx0⟩) (fun hL1 => ?_)
    clear hK K hL0
    refine tk (i := 8) (v := .bool false) rfl (Or.inl ⟨by kernel_rfl, fun w hSw => by go_simp <;> (first | exact beq_iff_eq.1 (by assumption) | exact beq_eq_false_iff_ne.1 (by assumption) | omega)⟩) hL1 ?_
    simp only [Act.put, zA, zB, zC, zD, zE, zF]
    change wpAnyH _ _ _ _ _ 0 #[true, true, true, true, true, true, true, true, true] _ _
    refine wpAnyH_done (by kernel_rfl) ?_ _
    refine NoPanic.normal ?_
    have HEND := jq7 hL1
    clear hL1
    have q0 := (Bk.cell HEND.o.1 0).trans P0.o
    have q1 := (Bk.cell HEND.o.1 1).trans P1.o
    have c3 := HC3.o _ HEND.o.2.2.2.2.2
    go_wp2
    rename_i K hKA
    have HREST : Jq7 (∀ (W : World) (g : Nat), Bk W w.heap.size X 31 ∧ Bk W p DV0 25 ∧ Bk W r RV0 28 ∧ Bk W (w.heap.size + 1) ZB 36 ∧ Bk W (w.heap.size + 1 + 1) ZB 36 ∧ Fr0 w W → Bk W g LA 36 → (w.heap.size + 1 + 1) < g → K { tmps := #[Value.pointer (some ⟨p, 0, none⟩), Value.pointer (some ⟨r, 0, none⟩), Value.agg X, undef, undef, Value.pointer (some ⟨w.heap.size, 0, none⟩), Value.pointer (some ⟨w.heap.size + 1, 0, none⟩), Value.int IntKind.i64 0, Value.int IntKind.i64 0, Value.pointer (some ⟨w.heap.size + 1 + 1, 0, none⟩), .pointer (some ⟨g, 0, none⟩), .bool ga, undef, undef, undef, Value.agg ZB, Value.pointer (some ⟨p, 0, none⟩), Value.pointer (some ⟨p, 0, none⟩), Value.agg DV0, Value.pointer (some ⟨r, 0, none⟩), Value.pointer (some ⟨r, 0, none⟩), Value.agg RV0, Value.agg X, Value.bool true, Value.bool false, undef, Value.pointer (some ⟨w.heap.size, 0, none⟩), Value.int IntKind.i64 a, Value.bool false, undef, Value.pointer (some ⟨p, 0, none⟩), Value.pointer (some ⟨p, 0, none⟩), Value.pointer (some ⟨p, 3, none⟩), Value.bool false, undef, .tuple #[.agg LA, .bool ga], Value.pointer (some ⟨p, 0, none⟩), Value.pointer (some ⟨r, 0, none⟩), Value.pointer (some ⟨r, 0, none⟩), .agg RV0, .agg X, .pointer (some ⟨w.heap.size, 0, none⟩), .int .i64 a, .tuple #[.agg LA, .bool ga], .agg LA, .bool ga, undef, undef, undef, undef, undef, undef, undef, undef, undef, undef, undef, undef, undef, undef, undef, undef, undef, undef, undef, undef, undef, undef, undef, undef, undef, undef, undef, undef, undef, undef, undef, undef, undef, undef, undef], defers := [] } W) := jq7 (by
     as_aux_lemma =>
      intro w6 g6 hS hB hg
      refine hKA _ _ ?_
      have HS6 := jq7 hS
      have HB6 := jq7 hB
      have HG6 := jq7 hg
      clear hS hB hg
      have q0 := (Bk.cell HS6.o.1 0).trans P0.o
      have q1 := (Bk.cell HS6.o.1 1).trans P1.o
      cases ga with
      | true =>
       go_wp2_with (first | ((with_reducible show wpList _ _ _ (qo _ (Op.load 36 _) _ _ _ _ _) _ _); refine lr 36 g6 LA HB6.o HIA.o ?_) | ((with_reducible show wpList _ _ _ (qo _ (Op.store 36 _ _) _ _ _ _ _) _ _); refine wpList_store_row rfl 36 _ _ rfl (w.heap.size + 1) LA rfl rfl 36 ZB HS6.o.2.2.2.1 HIA.o HSA.o HOA.o ?_))
       refine fin_ctt (w.heap.size + 1) 36 LA (.int .i64 0) (.int .i64 0) (by rfl) (by rfl) (by rfl) (by rfl) (by rfl) Tryz.underlying36 (by rfl) HIA.o (ArrKit.Bk.row HS6.o.2.2.2.1 _) ?_
       exact ⟨(by rw [← HLA.o]), HPS.o.keep0 (ArrKit.Fr.row HS6.o.2.2.2.2.2 (w.heap.size + 1) _ (.inl (by omega))), Fr.weaken (ArrKit.Fr.row HS6.o.2.2.2.2.2 (w.heap.size + 1) _ (.inl (by omega))) (fun _ _ h => h.elim)⟩
      | false =>
       by_cases hb1 : b = -1
       ·subst hb1
        go_wp2_with (first | ((with_reducible show wpList _ _ _ (qo _ (Op.load 36 _) _ _ _ _ _) _ _); refine lr 36 (w.heap.size + 1 + 1) ZB HS6.o.2.2.2.2.1 HZI.o ?_) | ((with_reducible show wpList _ _ _ (qo _ (Op.store 36 _ _) _ _ _ _ _) _ _); refine wpList_store_row rfl 36 _ _ rfl (w.heap.size + 1) ZB rfl rfl 36 ZB HS6.o.2.2.2.1 HZI.o rfl HZO.o ?_))
        refine fin_ctt (w.heap.size + 1) 36 ZB (.int .i64 0) (.int .i64 2) (by rfl) (by rfl) (by rfl) (by rfl) (by rfl) Tryz.underlying36 (by rfl) HZI.o (ArrKit.Bk.row HS6.o.2.2.2.1 _) ?_
        exact ⟨(congrArg (fun z => Ending.returned (.tuple #[.agg z, .int .i64 0, .int .i64 2])) Z128_cells.symm), HPS.o.keep0 (ArrKit.Fr.row HS6.o.2.2.2.2.2 (w.heap.size + 1) _ (.inl (by omega))), Fr.weaken (ArrKit.Fr.row HS6.o.2.2.2.2.2 (w.heap.size + 1) _ (.inl (by omega))) (fun _ _ h => h.elim)⟩
       ·have hbb : (b == -1) = false := by simpa using hb1
        go_wp2
        rename_i K2 hKB
        have HREST2 : Jq7 (∀ (W : World) (g : Nat), Bk W w.heap.size X 31 ∧ Bk W p DV0 25 ∧ Bk W r RV0 28 ∧ Bk W (w.heap.size + 1) ZB 36 ∧ Bk W (w.heap.size + 1 + 1) ZB 36 ∧ Fr0 w W → Bk W g LBB 36 → (w.heap.size + 1 + 1) < g → K2 { tmps := #[Value.pointer (some ⟨p, 0, none⟩), Value.pointer (some ⟨r, 0, none⟩), Value.agg X, undef, undef, Value.pointer (some ⟨w.heap.size, 0, none⟩), Value.pointer (some ⟨w.heap.size + 1, 0, none⟩), Value.int IntKind.i64 0, Value.int IntKind.i64 0, Value.pointer (some ⟨w.heap.size + 1 + 1, 0, none⟩), Value.pointer (some ⟨g6, 0, none⟩), .bool gb, .pointer (some ⟨g, 0, none⟩), undef, undef, Value.agg ZB, Value.pointer (some ⟨p, 0, none⟩), Value.pointer (some ⟨p, 0, none⟩), Value.agg DV0, Value.pointer (some ⟨r, 0, none⟩), Value.pointer (some ⟨r, 0, none⟩), Value.agg RV0, Value.agg X, Value.bool true, Value.bool false, undef, Value.pointer (some ⟨w.heap.size, 0, none⟩), Value.int IntKind.i64 a, Value.bool false, undef, Value.pointer (some ⟨p, 0, none⟩), Value.pointer (some ⟨p, 0, none⟩), Value.pointer (some ⟨p, 3, none⟩), Value.bool false, undef, Value.tuple #[Value.agg LA, Value.bool false], Value.pointer (some ⟨p, 0, none⟩), Value.pointer (some ⟨r, 0, none⟩), Value.pointer (some ⟨r, 0, none⟩), Value.agg RV0, Value.agg X, Value.pointer (some ⟨w.heap.size, 0, none⟩), Value.int IntKind.i64 a, Value.tuple #[Value.agg LA, Value.bool false], Value.agg LA, Value.bool false, Value.bool false, undef, Value.pointer (some ⟨w.heap.size, 1, none⟩), Value.int IntKind.i64 b, Value.bool false, undef, .tuple #[.agg LBB, .bool gb], Value.pointer (some ⟨p, 0, none⟩), Value.pointer (some ⟨r, 0, none⟩), Value.pointer (some ⟨r, 0, none⟩), .agg RV0, .agg X, .pointer (some ⟨w.heap.size, 1, none⟩), .int .i64 b, .tuple #[.agg LBB, .bool gb], .agg LBB, .bool gb, undef, undef, undef, undef, undef, undef, undef, undef, undef, undef, undef, undef, undef, undef, undef, undef, undef, undef], defers := [] } W) := jq7 (by
         as_aux_lemma =>
          intro w8 g8 hS hB hg
          refine hKB _ _ ?_
          have HS8 := jq7 hS
          have HB8 := jq7 hB
          have HG8 := jq7 hg
          clear hS hB hg
          have q0 := (Bk.cell HS8.o.1 0).trans P0.o
          have q1 := (Bk.cell HS8.o.1 1).trans P1.o
          cases gb with
          | false =>
           go_wp2_with (first | ((with_reducible show wpList _ _ _ (qo _ (Op.load 36 _) _ _ _ _ _) _ _); refine lr 36 (w.heap.size + 1 + 1) ZB HS8.o.2.2.2.2.1 HZI.o ?_) | ((with_reducible show wpList _ _ _ (qo _ (Op.store 36 _ _) _ _ _ _ _) _ _); refine wpList_store_row rfl 36 _ _ rfl (w.heap.size + 1) ZB rfl rfl 36 ZB HS8.o.2.2.2.1 HZI.o rfl HZO.o ?_))
           refine fin_ctt (w.heap.size + 1) 36 ZB (.int .i64 0) (.int .i64 2) (by rfl) (by rfl) (by rfl) (by rfl) (by rfl) Tryz.underlying36 (by rfl) HZI.o (ArrKit.Bk.row HS8.o.2.2.2.1 _) ?_
           exact ⟨(congrArg (fun z => Ending.returned (.tuple #[.agg z, .int .i64 0, .int .i64 2])) Z128_cells.symm), HPS.o.keep0 (ArrKit.Fr.row HS8.o.2.2.2.2.2 (w.heap.size + 1) _ (.inl (by omega))), Fr.weaken (ArrKit.Fr.row HS8.o.2.2.2.2.2 (w.heap.size + 1) _ (.inl (by omega))) (fun _ _ h => h.elim)⟩
          | true =>
           by_cases he0 : he = 0
           ·subst he0
            go_wp2_with (first | (go_at_call 27; (with_reducible refine (HHE.o _ HS8.o.2.2.2.2.2).mono ?_); rintro e w9 ⟨rfl, hp9, hf9⟩; have hpw := HPW.o; have hg8 := HG8.o; have HZ9 := jq7 (Fr.keep hf9 HS8.o.2.2.2.1 (by omega)); have HN9 := jq7 (Fr.keep hf9 HS8.o.2.2.2.2.1 (by omega)); have HY9 := jq7 (Fr.keep hf9 HB8.o (by omega)); have HP9 := jq7 hp9; have HF9 := jq7 ((HS8.o.2.2.2.2.2.weaken (fun _ _ h => h.elim)).trans hf9); clear hp9 hf9) | ((with_reducible show wpList _ _ _ (qo _ (Op.load 36 _) _ _ _ _ _) _ _); refine lr 36 g8 LBB HB8.o HIB.o ?_) | ((with_reducible show wpList _ _ _ (qo _ (Op.load 36 _) _ _ _ _ _) _ _); refine lr 36 g8 LBB HY9.o HIB.o ?_) | ((with_reducible show wpList _ _ _ (qo _ (Op.store 36 _ _) _ _ _ _ _) _ _); refine wpList_store_row rfl 36 _ _ rfl (w.heap.size + 1) LBB rfl rfl 36 ZB HZ9.o HIB.o HSB.o HOB.o ?_))
            refine fin_ctt (w.heap.size + 1) 36 LBB (.int .i64 hn) (.int .i64 0) (by rfl) (by rfl) (by rfl) (by rfl) (by rfl) Tryz.underlying36 (by rfl) HIB.o (ArrKit.Bk.row HZ9.o _) ?_
            exact ⟨(by rw [← HLB.o]), PS.pastB (l := Z128) HP9.o (by rw [Z128_cells]; exact HZ9.o) (Fr.row1 _ _ _) (by have := HPW.o; omega) (by have := HPW.o; omega), (ArrKit.Fr.row HF9.o (w.heap.size + 1) _ (.inl (by omega)))⟩
           ·have heb : (he != 0) = true := by simpa using he0
            go_wp2_with (first | (go_at_call 27; (with_reducible refine (HHE.o _ HS8.o.2.2.2.2.2).mono ?_); rintro e w9 ⟨rfl, hp9, hf9⟩; have hpw := HPW.o; have hg8 := HG8.o; have HZ9 := jq7 (Fr.keep hf9 HS8.o.2.2.2.1 (by omega)); have HN9 := jq7 (Fr.keep hf9 HS8.o.2.2.2.2.1 (by omega)); have HY9 := jq7 (Fr.keep hf9 HB8.o (by omega)); have HP9 := jq7 hp9; have HF9 := jq7 ((HS8.o.2.2.2.2.2.weaken (fun _ _ h => h.elim)).trans hf9); clear hp9 hf9) | ((with_reducible show wpList _ _ _ (qo _ (Op.load 36 _) _ _ _ _ _) _ _); refine lr 36 g8 LBB HB8.o HIB.o ?_) | ((with_reducible show wpList _ _ _ (qo _ (Op.load 36 _) _ _ _ _ _) _ _); refine lr 36 (w.heap.size + 1 + 1) ZB HN9.o HZI.o ?_) | ((with_reducible show wpList _ _ _ (qo _ (Op.store 36 _ _) _ _ _ _ _) _ _); refine wpList_store_row rfl 36 _ _ rfl (w.heap.size + 1) ZB rfl rfl 36 ZB HZ9.o HZI.o rfl HZO.o ?_))
            refine fin_ctt (w.heap.size + 1) 36 ZB (.int .i64 0) (.int .i64 he) (by rfl) (by rfl) (by rfl) (by rfl) (by rfl) Tryz.underlying36 (by rfl) HZI.o (ArrKit.Bk.row HZ9.o _) ?_
            exact ⟨(congrArg (fun z => Ending.returned (.tuple #[.agg z, .int .i64 0, .int .i64 he])) Z128_cells.symm), PS.pastB (l := Z128) HP9.o (by rw [Z128_cells]; exact HZ9.o) (Fr.row1 _ _ _) (by have := HPW.o; omega) (by have := HPW.o; omega), (ArrKit.Fr.row HF9.o (w.heap.size + 1) _ (.inl (by omega)))⟩
         )
        clear hKB
        refine wp_region_noPanic ?_
        refine wp_region_held_drew (S := (fun W : World => Bk W w.heap.size X 31 ∧ Bk W p DV0 25 ∧ Bk W r RV0 28 ∧ Bk W (w.heap.size + 1) ZB 36 ∧ Bk W (w.heap.size + 1 + 1) ZB 36 ∧ Fr0 w W)) (by kernel_rfl) (⟨Fr.keep (Fr.drew (Fr.refl (fun _ => False) _)) HS6.o.1 (fun h => h), Fr.keep (Fr.drew (Fr.refl (fun _ => False) _)) HS6.o.2.1 (fun h => h), Fr.keep (Fr.drew (Fr.refl (fun _ => False) _)) HS6.o.2.2.1 (fun h => h), Fr.keep (Fr.drew (Fr.refl (fun _ => False) _)) HS6.o.2.2.2.1 (fun h => h), Fr.keep (Fr.drew (Fr.refl (fun _ => False) _)) HS6.o.2.2.2.2.1 (fun h => h), Fr.drew HS6.o.2.2.2.2.2⟩) (fun hL0 => ?_)
        generalize w6.drew = wd at *
        refine tk0 (i := 0) (v := .pointer (some ⟨p, 0, none⟩)) rfl hL0 ?_
        refine tk0 (i := 1) (v := .pointer (some ⟨r, 0, none⟩)) rfl hL0 ?_
        simp only [Act.put, zA, zB, zC, zD, zE, zF]
        refine tk0 (i := 2) (v := .pointer (some ⟨r, 0, none⟩)) rfl hL0 ?_
        refine tk (i := 3) (v := .agg RV0) rfl (yields_row (by kernel_rfl) 28 _ rfl (r) rfl 28 RV0 (0, 0) _ (fun W h => h.2.2.1) Tryz.underlying28 rfl HIR.o) hL0 ?_
        simp only [Act.put, zA, zB, zC, zD, zE, zF]
        refine tk (i := 4) (v := .agg X) rfl (yields_row (by kernel_rfl) 31 _ rfl (w.heap.size) rfl 31 X (0, 0) _ (fun W h => h.1) Tryz.underlying31 rfl HIP.o) hL0 ?_
        refine tk0 (i := 5) (v := .pointer (some ⟨w.heap.size, 1, none⟩)) rfl hL0 ?_
        simp only [Act.put, zA, zB, zC, zD, zE, zF]
        refine tk (i := 6) (v := .int .i64 b) rfl (Or.inl ⟨by kernel_rfl, fun w hSw => by have hcl := (fun _ h => (Bk.cell h.1 1).trans P1.o) w hSw; go_simp⟩) hL0 ?_
        simp only [Act.put, zA, zB, zC, zD, zE, zF]
        change wpAnyH _ _ _ _ _ 7 #[true, true, true, true, true, true, true, false, false, false, false, false, false, false] _ _
        refine wpAnyH_ready (rs := [7, 11]) (by kernel_rfl) (by simp) ?_
        refine AllReadyH.cons rfl (fun K hK => ?_) (AllReadyH.cons rfl (fun K hK => ?_) (AllReadyH.nil))
        ·simp only [zA, zB, zC]
         refine (if_pos (by kernel_rfl)).mpr ?_
         go_wp2_with fail
         refine (HGB.o _ (hL0).2.2.2.2.2).mono ?_
         rintro e wx0 ⟨rfl, hfx0⟩
         dsimp only
         refine hK.out _ _ (⟨Fr.keep hfx0 (hL0).1 (fun h => h), Fr.keep hfx0 (hL0).2.1 (fun h => h), Fr.keep hfx0 (hL0).2.2.1 (fun h => h), Fr.keep hfx0 (hL0).2.2.2.1 (fun h => h), Fr.keep hfx0 (hL0).2.2.2.2.1 (fun h => h), (hL0).2.2.2.2.2.then0 hfx0⟩) (fun hL1 => ?_)
         clear hK K hL0
         clear hfx0
         refine tk0 (i := 8) (v := .tuple #[.agg LBB, .bool gb]) rfl hL1 ?_
         refine tk (i := 9) (v := .agg LBB) rfl (Or.inl ⟨by kernel_rfl, fun w hSw => by go_simp⟩) hL1 ?_
         simp only [Act.put, zA, zB, zC, zD, zE, zF]
         refine tk (i := 10) (v := .bool gb) rfl (Or.inl ⟨by kernel_rfl, fun w hSw => by go_simp⟩) hL1 ?_
         simp only [Act.put, zA, zB, zC, zD, zE, zF]
         change wpAnyH _ _ _ _ _ 3 #[true, true, true, true, true, true, true, true, true, true, true, false, false, false] _ _
         refine HeldKit.r1 11 rfl fun K hK => ?_
         simp only [zA, zB, zC]
         go_wp2_with fail
         have HQ9 : Jq7 (Bk (wx0.alloc (.cells ZB 36)) wx0.heap.size ZB 36) := jq7 (Bk.new wx0 _)
         have HGE : Jq7 ((w.heap.size + 1 + 1) < wx0.heap.size) := jq7 (Bk.lt (hL1).2.2.2.2.1)
         refine hK.out _ _ (⟨Bk.alloc (hL1).1 _, Bk.alloc (hL1).2.1 _, Bk.alloc (hL1).2.2.1 _, Bk.alloc (hL1).2.2.2.1 _, Bk.alloc (hL1).2.2.2.2.1 _, Fr.alloc (hL1).2.2.2.2.2 _⟩) (fun hL2 => ?_)
         clear hK K hL1
         generalize wx0.heap.size = g7 at *
         generalize (wx0.alloc (.cells ZB 36)) = wx1 at *
         change wpAnyH _ _ _ _ _ 2 #[true, true, true, true, true, true, true, true, true, true, true, true, false, false] _ _
         refine HeldKit.r1 12 rfl fun K hK => ?_
         simp only [zA, zB, zC]
         have hge := HGE.o
         have hpw := HPW.o
         refine wp_store_row 36 _ _ rfl g7 LBB rfl rfl 36 ZB HQ9.o HIB.o HSB.o HOB.o ?_
         replace HQ9 : Jq7 (Bk (wx1.setRow g7 LBB) g7 LBB 36) := jq7 (ArrKit.Bk.row HQ9.o _)
         refine hK.out _ _ (⟨ArrKit.Bk.rowOther (hL2).1 _ (by omega), ArrKit.Bk.rowOther (hL2).2.1 _ (by omega), ArrKit.Bk.rowOther (hL2).2.2.1 _ (by omega), ArrKit.Bk.rowOther (hL2).2.2.2.1 _ (by omega), ArrKit.Bk.rowOther (hL2).2.2.2.2.1 _ (by omega), ArrKit.Fr.row (hL2).2.2.2.2.2 _ _ (.inl (by omega))⟩) (fun hL3 => ?_)
         clear hK K hL2
         generalize (wx1.setRow g7 LBB) = w7 at *
         refine tk0 (i := 13) (v := .bool gb) rfl hL3 ?_
         simp only [Act.put, zA, zB, zC, zD, zE, zF]
         change wpAnyH _ _ _ _ _ 0 #[true, true, true, true, true, true, true, true, true, true, true, true, true, true] _ _
         refine wpAnyH_done (by kernel_rfl) ?_ _
         refine NoPanic.normal ?_
         have HEND := jq7 hL3
         clear hL3
         exact HREST2.o w7 g7 HEND.o HQ9.o HGE.o
        ·simp only [zA, zB, zC]
         refine (if_pos (by kernel_rfl)).mpr ?_
         go_wp2_with fail
         have HQ9 : Jq7 (Bk (wd.alloc (.cells ZB 36)) wd.heap.size ZB 36) := jq7 (Bk.new wd _)
         have HGE : Jq7 ((w.heap.size + 1 + 1) < wd.heap.size) := jq7 (Bk.lt (hL0).2.2.2.2.1)
         refine hK.out _ _ (⟨Bk.alloc (hL0).1 _, Bk.alloc (hL0).2.1 _, Bk.alloc (hL0).2.2.1 _, Bk.alloc (hL0).2.2.2.1 _, Bk.alloc (hL0).2.2.2.2.1 _, Fr.alloc (hL0).2.2.2.2.2 _⟩) (fun hL1 => ?_)
         clear hK K hL0
         generalize wd.heap.size = g7 at *
         generalize (wd.alloc (.cells ZB 36)) = wx0 at *
         change wpAnyH _ _ _ _ _ 6 #[true, true, true, true, true, true, true, false, false, false, false, true, false, false] _ _
         refine HeldKit.r1 7 rfl fun K hK => ?_
         simp only [zA, zB, zC]
         go_wp2_with fail
         refine (HGB.o _ (hL1).2.2.2.2.2).mono ?_
         rintro e wx1 ⟨rfl, hfx1⟩
         dsimp only
         replace HQ9 := jq7 (hfx1.keep HQ9.o (fun h => h))
         refine hK.out _ _ (⟨Fr.keep hfx1 (hL1).1 (fun h => h), Fr.keep hfx1 (hL1).2.1 (fun h => h), Fr.keep hfx1 (hL1).2.2.1 (fun h => h), Fr.keep hfx1 (hL1).2.2.2.1 (fun h => h), Fr.keep hfx1 (hL1).2.2.2.2.1 (fun h => h), (hL1).2.2.2.2.2.then0 hfx1⟩) (fun hL2 => ?_)
         clear hK K hL1
         clear hfx1
         refine tk0 (i := 8) (v := .tuple #[.agg LBB, .bool gb]) rfl hL2 ?_
         refine tk (i := 9) (v := .agg LBB) rfl (Or.inl ⟨by kernel_rfl, fun w hSw => by go_simp⟩) hL2 ?_
         simp only [Act.put, zA, zB, zC, zD, zE, zF]
         refine tk (i := 10) (v := .bool gb) rfl (Or.inl ⟨by kernel_rfl, fun w hSw => by go_simp⟩) hL2 ?_
         simp only [Act.put, zA, zB, zC, zD, zE, zF]
         change wpAnyH _ _ _ _ _ 2 #[true, true, true, true, true, true, true, true, true, true, true, true, false, false] _ _
         refine HeldKit.r1 12 rfl fun K hK => ?_
         simp only [zA, zB, zC]
         have hge := HGE.o
         have hpw := HPW.o
         refine wp_store_row 36 _ _ rfl g7 LBB rfl rfl 36 ZB HQ9.o HIB.o HSB.o HOB.o ?_
         replace HQ9 : Jq7 (Bk (wx1.setRow g7 LBB) g7 LBB 36) := jq7 (ArrKit.Bk.row HQ9.o _)
         refine hK.out _ _ (⟨ArrKit.Bk.rowOther (hL2).1 _ (by omega), ArrKit.Bk.rowOther (hL2).2.1 _ (by omega), ArrKit.Bk.rowOther (hL2).2.2.1 _ (by omega), ArrKit.Bk.rowOther (hL2).2.2.2.1 _ (by omega), ArrKit.Bk.rowOther (hL2).2.2.2.2.1 _ (by omega), ArrKit.Fr.row (hL2).2.2.2.2.2 _ _ (.inl (by omega))⟩) (fun hL3 => ?_)
         clear hK K hL2
         generalize (wx1.setRow g7 LBB) = w7 at *
         refine tk0 (i := 13) (v := .bool gb) rfl hL3 ?_
         simp only [Act.put, zA, zB, zC, zD, zE, zF]
         change wpAnyH _ _ _ _ _ 0 #[true, true, true, true, true, true, true, true, true, true, true, true, true, true] _ _
         refine wpAnyH_done (by kernel_rfl) ?_ _
         refine NoPanic.normal ?_
         have HEND := jq7 hL3
         clear hL3
         exact HREST2.o w7 g7 HEND.o HQ9.o HGE.o
     )
    clear hKA
    refine wp_region_noPanic ?_
    refine wp_region_held_drew (S := (fun W : World => Bk W w.heap.size X 31 ∧ Bk W p DV0 25 ∧ Bk W r RV0 28 ∧ Bk W (w.heap.size + 1) ZB 36 ∧ Bk W (w.heap.size + 1 + 1) ZB 36 ∧ Fr0 w W)) (by kernel_rfl) (⟨Fr.keep (Fr.drew (Fr.refl (fun _ => False) _)) HEND.o.1 (fun h => h), Fr.keep (Fr.drew (Fr.refl (fun _ => False) _)) HEND.o.2.1 (fun h => h), Fr.keep (Fr.drew (Fr.refl (fun _ => False) _)) HEND.o.2.2.1 (fun h => h), Fr.keep (Fr.drew (Fr.refl (fun _ => False) _)) HEND.o.2.2.2.1 (fun h => h), Fr.keep (Fr.drew (Fr.refl (fun _ => False) _)) HEND.o.2.2.2.2.1 (fun h => h), Fr.drew HEND.o.2.2.2.2.2⟩) (fun hL0 => ?_)
    generalize wx0.drew = wd at *
    refine tk0 (i := 0) (v := .pointer (some ⟨p, 0, none⟩)) rfl hL0 ?_
    refine tk0 (i := 1) (v := .pointer (some ⟨r, 0, none⟩)) rfl hL0 ?_
    simp only [Act.put, zA, zB, zC, zD, zE, zF]
    refine tk0 (i := 2) (v := .pointer (some ⟨r, 0, none⟩)) rfl hL0 ?_
    refine tk (i := 3) (v := .agg RV0) rfl (yields_row (by kernel_rfl) 28 _ rfl (r) rfl 28 RV0 (0, 0) _ (fun W h => h.2.2.1) Tryz.underlying28 rfl HIR.o) hL0 ?_
    simp only [Act.put, zA, zB, zC, zD, zE, zF]
    refine tk (i := 4) (v := .agg X) rfl (yields_row (by kernel_rfl) 31 _ rfl (w.heap.size) rfl 31 X (0, 0) _ (fun W h => h.1) Tryz.underlying31 rfl HIP.o) hL0 ?_
    refine tk0 (i := 5) (v := .pointer (some ⟨w.heap.size, 0, none⟩)) rfl hL0 ?_
    simp only [Act.put, zA, zB, zC, zD, zE, zF]
    refine tk (i := 6) (v := .int .i64 a) rfl (Or.inl ⟨by kernel_rfl, fun w hSw => by have hcl := (fun _ h => (Bk.cell h.1 0).trans P0.o) w hSw; go_simp⟩) hL0 ?_
    simp only [Act.put, zA, zB, zC, zD, zE, zF]
    change wpAnyH _ _ _ _ _ 7 #[true, true, true, true, true, true, true, false, false, false, false, false, false, false] _ _
    refine wpAnyH_ready (rs := [7, 11]) (by kernel_rfl) (by simp) ?_
    refine AllReadyH.cons rfl (fun K hK => ?_) (AllReadyH.cons rfl (fun K hK => ?_) (AllReadyH.nil))
    ·simp only [zA, zB, zC]
     refine (if_pos (by kernel_rfl)).mpr ?_
     go_wp2_with fail
     refine (HGA.o _ (hL0).2.2.2.2.2).mono ?_
     rintro e wx0 ⟨rfl, hfx0⟩
     dsimp only
     refine hK.out _ _ (⟨Fr.keep hfx0 (hL0).1 (fun h => h), Fr.keep hfx0 (hL0).2.1 (fun h => h), Fr.keep hfx0 (hL0).2.2.1 (fun h => h), Fr.keep hfx0 (hL0).2.2.2.1 (fun h => h), Fr.keep hfx0 (hL0).2.2.2.2.1 (fun h => h), (hL0).2.2.2.2.2.then0 hfx0⟩) (fun hL1 => ?_)
     clear hK K hL0
     clear hfx0
     refine tk0 (i := 8) (v := .tuple #[.agg LA, .bool ga]) rfl hL1 ?_
     refine tk (i := 9) (v := .agg LA) rfl (Or.inl ⟨by kernel_rfl, fun w hSw => by go_simp⟩) hL1 ?_
     simp only [Act.put, zA, zB, zC, zD, zE, zF]
     refine tk (i := 10) (v := .bool ga) rfl (Or.inl ⟨by kernel_rfl, fun w hSw => by go_simp⟩) hL1 ?_
     simp only [Act.put, zA, zB, zC, zD, zE, zF]
     change wpAnyH _ _ _ _ _ 3 #[true, true, true, true, true, true, true, true, true, true, true, false, false, false] _ _
     refine HeldKit.r1 11 rfl fun K hK => ?_
     simp only [zA, zB, zC]
     go_wp2_with fail
     have HQ9 : Jq7 (Bk (wx0.alloc (.cells ZB 36)) wx0.heap.size ZB 36) := jq7 (Bk.new wx0 _)
     have HGE : Jq7 ((w.heap.size + 1 + 1) < wx0.heap.size) := jq7 (Bk.lt (hL1).2.2.2.2.1)
     refine hK.out _ _ (⟨Bk.alloc (hL1).1 _, Bk.alloc (hL1).2.1 _, Bk.alloc (hL1).2.2.1 _, Bk.alloc (hL1).2.2.2.1 _, Bk.alloc (hL1).2.2.2.2.1 _, Fr.alloc (hL1).2.2.2.2.2 _⟩) (fun hL2 => ?_)
     clear hK K hL1
     generalize wx0.heap.size = g9 at *
     generalize (wx0.alloc (.cells ZB 36)) = wx1 at *
     change wpAnyH _ _ _ _ _ 2 #[true, true, true, true, true, true, true, true, true, true, true, true, false, false] _ _
     refine HeldKit.r1 12 rfl fun K hK => ?_
     simp only [zA, zB, zC]
     have hge := HGE.o
     have hpw := HPW.o
     refine wp_store_row 36 _ _ rfl g9 LA rfl rfl 36 ZB HQ9.o HIA.o HSA.o HOA.o ?_
     replace HQ9 : Jq7 (Bk (wx1.setRow g9 LA) g9 LA 36) := jq7 (ArrKit.Bk.row HQ9.o _)
     refine hK.out _ _ (⟨ArrKit.Bk.rowOther (hL2).1 _ (by omega), ArrKit.Bk.rowOther (hL2).2.1 _ (by omega), ArrKit.Bk.rowOther (hL2).2.2.1 _ (by omega), ArrKit.Bk.rowOther (hL2).2.2.2.1 _ (by omega), ArrKit.Bk.rowOther (hL2).2.2.2.2.1 _ (by omega), ArrKit.Fr.row (hL2).2.2.2.2.2 _ _ (.inl (by omega))⟩) (fun hL3 => ?_)
     clear hK K hL2
     generalize (wx1.setRow g9 LA) = w9 at *
     refine tk0 (i := 13) (v := .bool ga) rfl hL3 ?_
     simp only [Act.put, zA, zB, zC, zD, zE, zF]
     change wpAnyH _ _ _ _ _ 0 #[true, true, true, true, true, true, true, true, true, true, true, true, true, true] _ _
     refine wpAnyH_done (by kernel_rfl) ?_ _
     refine NoPanic.normal ?_
     have HEND := jq7 hL3
     clear hL3
     exact HREST.o w9 g9 HEND.o HQ9.o HGE.o
    ·simp only [zA, zB, zC]
     refine (if_pos (by kernel_rfl)).mpr ?_
     go_wp2_with fail
     have HQ9 : Jq7 (Bk (wd.alloc (.cells ZB 36)) wd.heap.size ZB 36) := jq7 (Bk.new wd _)
     have HGE : Jq7 ((w.heap.size + 1 + 1) < wd.heap.size) := jq7 (Bk.lt (hL0).2.2.2.2.1)
     refine hK.out _ _ (⟨Bk.alloc (hL0).1 _, Bk.alloc (hL0).2.1 _, Bk.alloc (hL0).2.2.1 _, Bk.alloc (hL0).2.2.2.1 _, Bk.alloc (hL0).2.2.2.2.1 _, Fr.alloc (hL0).2.2.2.2.2 _⟩) (fun hL1 => ?_)
     clear hK K hL0
     generalize wd.heap.size = g9 at *
     generalize (wd.alloc (.cells ZB 36)) = wx0 at *
     change wpAnyH _ _ _ _ _ 6 #[true, true, true, true, true, true, true, false, false, false, false, true, false, false] _ _
     refine HeldKit.r1 7 rfl fun K hK => ?_
     simp only [zA, zB, zC]
     go_wp2_with fail
     refine (HGA.o _ (hL1).2.2.2.2.2).mono ?_
     rintro e wx1 ⟨rfl, hfx1⟩
     dsimp only
     replace HQ9 := jq7 (hfx1.keep HQ9.o (fun h => h))
     refine hK.out _ _ (⟨Fr.keep hfx1 (hL1).1 (fun h => h), Fr.keep hfx1 (hL1).2.1 (fun h => h), Fr.keep hfx1 (hL1).2.2.1 (fun h => h), Fr.keep hfx1 (hL1).2.2.2.1 (fun h => h), Fr.keep hfx1 (hL1).2.2.2.2.1 (fun h => h), (hL1).2.2.2.2.2.then0 hfx1⟩) (fun hL2 => ?_)
     clear hK K hL1
     clear hfx1
     refine tk0 (i := 8) (v := .tuple #[.agg LA, .bool ga]) rfl hL2 ?_
     refine tk (i := 9) (v := .agg LA) rfl (Or.inl ⟨by kernel_rfl, fun w hSw => by go_simp⟩) hL2 ?_
     simp only [Act.put, zA, zB, zC, zD, zE, zF]
     refine tk (i := 10) (v := .bool ga) rfl (Or.inl ⟨by kernel_rfl, fun w hSw => by go_simp⟩) hL2 ?_
     simp only [Act.put, zA, zB, zC, zD, zE, zF]
     change wpAnyH _ _ _ _ _ 2 #[true, true, true, true, true, true, true, true, true, true, true, true, false, false] _ _
     refine HeldKit.r1 12 rfl fun K hK => ?_
     simp only [zA, zB, zC]
     have hge := HGE.o
     have hpw := HPW.o
     refine wp_store_row 36 _ _ rfl g9 LA rfl rfl 36 ZB HQ9.o HIA.o HSA.o HOA.o ?_
     replace HQ9 : Jq7 (Bk (wx1.setRow g9 LA) g9 LA 36) := jq7 (ArrKit.Bk.row HQ9.o _)
     refine hK.out _ _ (⟨ArrKit.Bk.rowOther (hL2).1 _ (by omega), ArrKit.Bk.rowOther (hL2).2.1 _ (by omega), ArrKit.Bk.rowOther (hL2).2.2.1 _ (by omega), ArrKit.Bk.rowOther (hL2).2.2.2.1 _ (by omega), ArrKit.Bk.rowOther (hL2).2.2.2.2.1 _ (by omega), ArrKit.Fr.row (hL2).2.2.2.2.2 _ _ (.inl (by omega))⟩) (fun hL3 => ?_)
     clear hK K hL2
     generalize (wx1.setRow g9 LA) = w9 at *
     refine tk0 (i := 13) (v := .bool ga) rfl hL3 ?_
     simp only [Act.put, zA, zB, zC, zD, zE, zF]
     change wpAnyH _ _ _ _ _ 0 #[true, true, true, true, true, true, true, true, true, true, true, true, true, true] _ _
     refine wpAnyH_done (by kernel_rfl) ?_ _
     refine NoPanic.normal ?_
     have HEND := jq7 hL3
     clear hL3
     exact HREST.o w9 g9 HEND.o HQ9.o HGE.o

end Go.Proofs.YtmkmpfnadcmcoaaGreatDoor.DitRGet
