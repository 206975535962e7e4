/- The theorems that the claim uses, text behind text (part 36). -/
import Derived.Test.YtmkmpfnadcmcoaaGreatDoorYbe
import Derived.Test.YtmkmpfnadcmcoaaGreatDoorYbi
set_option maxRecDepth 100000
set_option maxHeartbeats 8000000
set_option linter.unusedVariables false
set_option linter.unusedSimpArgs false
namespace Go.Proofs.YtmkmpfnadcmcoaaGreatDoor.DitRLook
open Go Go.RowKit K EqKit ArrKit HeldKit GKit GRow DiskKit RmKit MapKit ShaStep RmRight RmRRight RmTab RmPut RmAsk RmSame DiskRRead RmRead RmReads DiskAct RmSpare RmKeep RmAliveP RmWrX RmWrite RmPair RowG PtrKit DitKit DitAsk DitHome DitGet DitRHome DitPut WKit DitLook
theorem rlook_calls (p r : Nat) (d : Dk) (m : Rm) (a b : Int) (s : List UInt8) (w : World) (hok : d.ok) (hm : m.ok) (hps : PS w p r d m) (hrp : r ≠ p) (hs : s.length = 32) (ha : (Lit.int .i64 a).wf = true) (hb : (Lit.int .i64 b).wf = true) (hC : d.C.length ≤ 900) : Calls Tryz.prog 14 #[.pointer (some ⟨p, 0, none⟩), .pointer (some ⟨r, 0, none⟩), .agg (PC a b s).toArray] w fun e w' => e = .returned (.tuple #[.agg (RP (lookX d m a b s).1.1.1 (lookX d m a b s).1.1.2.1 (lookX d m a b s).1.1.2.2), .int .i64 (lookX d m a b s).1.2]) ∧ PS w' p r (lookX d m a b s).2.1 (lookX d m a b s).2.2 ∧ Fr (fun i => i = p ∨ i = r) w w' := by
 have hps2 := hps
 obtain ⟨⟨sa, sc, ca, cc, hv⟩, ra, rc, hb1, hrv⟩ := hps2
 have HHO : Jq7 (∀ W, Fr0 w W → Calls Tryz.prog 25 #[.agg (dval d sa sc ca cc), .agg (rval m ra rc), .agg (PC a b s).toArray] W fun e w' => e = .returned (.bool (homeB d m a b s)) ∧ Fr0 W w') := jq7 (fun W f => rhome_calls d sa sc ca cc m ra rc a b s W hm (hv.v.keep f) (hrv.keep f) hs ha hb)
 have HGO : Jq7 (∀ q W, (Lit.int .i64 q).wf = true → Fr0 w W → Calls Tryz.prog 26 #[.pointer (some ⟨p, 0, none⟩), .agg (rval m ra rc), .agg (PC a b s).toArray, .int .i64 q] W fun e w' => e = .returned (.tuple #[.agg ((rdG d m a b s q).1.map B).toArray, .bool (rdG d m a b s q).2]) ∧ Fr0 W w') := jq7 (fun q W hq f => DitGood.good_calls p d sa sc ca cc m ra rc a b q s W hok hm (hv.keep f) (hrv.keep f) hs ha hb hq)
 have HC3 : Jq7 (∀ W, Fr0 w W → W.cell? ⟨p, 3, none⟩ = some (.bool d.down)) := jq7 (fun W f => Bk.cell (hv.keep f).blk 3)
 have hlb := rdG_len hok m a b s b
 have hla := rdG_len hok m a b s a
 have HHA : Jq7 (∀ W, Fr0 w W → Calls Tryz.prog 27 #[.pointer (some ⟨p, 0, none⟩), .pointer (some ⟨r, 0, none⟩), .int .i64 a, .agg ((rdG d m a b s b).1.map B).toArray] W fun e w' => e = .returned (.tuple #[.int .i64 (healX d m a (rdG d m a b s b).1).1, .int .i64 (healX d m a (rdG d m a b s b).1).2.1]) ∧ PS w' p r (healX d m a (rdG d m a b s b).1).2.2.1 (healX d m a (rdG d m a b s b).1).2.2.2 ∧ Fr (fun i => i = p ∨ i = r) W w') := jq7 (fun W f => rheal_calls p r d m a _ W hok hm (hps.keep0 f) hrp ha hlb hC)
 have HHB : Jq7 (∀ W, Fr0 w W → Calls Tryz.prog 27 #[.pointer (some ⟨p, 0, none⟩), .pointer (some ⟨r, 0, none⟩), .int .i64 b, .agg ((rdG d m a b s a).1.map B).toArray] W fun e w' => e = .returned (.tuple #[.int .i64 (healX d m b (rdG d m a b s a).1).1, .int .i64 (healX d m b (rdG d m a b s a).1).2.1]) ∧ PS w' p r (healX d m b (rdG d m a b s a).1).2.2.1 (healX d m b (rdG d m a b s a).1).2.2.2 ∧ Fr (fun i => i = p ∨ i = r) W w') := jq7 (fun W f => rheal_calls p r d m b _ W hok hm (hps.keep0 f) hrp hb hla hC)
 have hhm : homeB d m a b s = true → (PtrAsk.isH a b s = true ↔ a = -1) ∧ tabB m (d.S.length : Int) = true := fun h1 => by
  unfold homeB at h1
  simp only [Bool.and_eq_true] at h1
  refine ⟨?_, h1.2.1⟩
  have h3 := h1.2.2.1
  unfold PtrAsk.rightB at h3
  constructor
  ·intro h2
   unfold PtrAsk.isH at h2
   exact (of_decide_eq_true h2).1
  ·intro h2
   cases h4 : PtrAsk.isH a b s with
   | true => rfl
   | false =>
    rw [h4, Bool.false_or, Bool.and_eq_true] at h3
    have h5 := h3.1
    unfold PtrAsk.secB at h5
    have := of_decide_eq_true h5
    omega
 have HAX : Jq7 (homeB d m a b s = true → ∀ D1 M1 hn he, healX d m a (rdG d m a b s b).1 = (hn, he, D1, M1) → D1.ok ∧ (∀ x ∈ M1.ps, 8 ≤ x.2)) := jq7 (fun hh D1 M1 hn he e => by
  have h1 := healX_ok (l := (rdG d m a b s b).1) hok hm ha hlb
  have h2 : ∀ x ∈ (healX d m a (rdG d m a b s b).1).2.2.2.ps, 8 ≤ x.2 := wrX_to hok hm ha hlb (hhm hh).2
  rw [e] at h1 h2
  exact ⟨h1.1, h2⟩)
 have HBX : Jq7 (homeB d m a b s = true → ∀ D1 M1 hn he, healX d m b (rdG d m a b s a).1 = (hn, he, D1, M1) → D1.ok ∧ (∀ x ∈ M1.ps, 8 ≤ x.2)) := jq7 (fun hh D1 M1 hn he e => by
  have h1 := healX_ok (l := (rdG d m a b s a).1) hok hm hb hla
  have h2 : ∀ x ∈ (healX d m b (rdG d m a b s a).1).2.2.2.ps, 8 ≤ x.2 := wrX_to hok hm hb hla (hhm hh).2
  rw [e] at h1 h2
  exact ⟨h1.1, h2⟩)
 have HPS := jq7 hps
 have HOO : Jq7 (p < w.heap.size ∧ r < w.heap.size) := jq7 ⟨Bk.lt hv.blk, Bk.lt hb1⟩
 have HRP := jq7 hrp
 have HGA := jq7 (fun W => HGO.o a W ha)
 have HGB := jq7 (fun W => HGO.o b W hb)
 have HIP := jq7 (info_ptr a b hs)
 have HID : Jq7 ((Tryz.prog.info? 25).map (·.size) = some (dval d sa sc ca cc).size) := jq7 info_d
 have HIR : Jq7 ((Tryz.prog.info? 28).map (·.size) = some (rval m ra rc).size) := jq7 (info_r _ _)
 have HIA := jq7 (info_l hla)
 have HSA := jq7 (size_l hla)
 have HOA := jq7 (one_l (rdG d m a b s a).1)
 have HIB := jq7 (info_l hlb)
 have HSB := jq7 (size_l hlb)
 have HOB := jq7 (one_l (rdG d m a b s b).1)
 obtain ⟨LA, hLA⟩ : ∃ z, ((rdG d m a b s a).1.map B).toArray = z := ⟨_, rfl⟩
 obtain ⟨LBB, hLB⟩ : ∃ z, ((rdG d m a b s b).1.map B).toArray = z := ⟨_, rfl⟩
 rw [hLA] at HGA HIA HSA HOA HHB
 rw [hLB] at HGB HIB HSB HOB HHA
 clear hLA hLB HGO
 have P0 : Jq7 ((PC a b s).toArray[0]? = some (.int .i64 a)) := jq7 rfl
 have P1 : Jq7 ((PC a b s).toArray[1]? = some (.int .i64 b)) := jq7 rfl
 have hzb := zero_bl
 have HDV : Jq7 (Bk w p (dval d sa sc ca cc) 25) := jq7 hv.blk
 have HRV : Jq7 (Bk w r (rval m ra rc) 28) := jq7 hb1
 unfold lookX
 clear hok hm hps hrp hs ha hb hC hlb hla hv hb1 hrv
 generalize (PC a b s).toArray = X at *
 generalize dval d sa sc ca cc = DV0 at *
 generalize rval m ra rc = RV0 at *
 have HF : Jq7 (Fr0 w w) := jq7 (Fr.refl _ _)
 obtain ⟨⟨hnA, heA, DA, MA⟩, hHA⟩ : ∃ z, healX d m a (rdG d m a b s b).1 = z := ⟨_, rfl⟩
 have HYA : Jq7 (homeB d m a b s = true → DA.ok ∧ (∀ x ∈ MA.ps, 8 ≤ x.2)) := jq7 (fun hh => HAX.o hh _ _ _ _ hHA)
 rw [hHA] at HHA
 rw [hHA]
 clear hHA HAX
 dsimp only at HHA ⊢
 obtain ⟨⟨hnB, heB, DB, MB⟩, hHB⟩ : ∃ z, healX d m b (rdG d m a b s a).1 = z := ⟨_, rfl⟩
 have HYB : Jq7 (homeB d m a b s = true → DB.ok ∧ (∀ x ∈ MB.ps, 8 ≤ x.2)) := jq7 (fun hh => HBX.o hh _ _ _ _ hHB)
 rw [hHB] at HHB
 rw [hHB]
 clear hHB HBX
 dsimp only at HHB ⊢
 obtain ⟨ga, hga⟩ : ∃ z, (rdG d m a b s a).2 = z := ⟨_, rfl⟩
 obtain ⟨gb, hgb⟩ : ∃ z, (rdG d m a b s b).2 = z := ⟨_, rfl⟩
 rw [hga] at HGA
 rw [hgb] at HGB
 rw [hga, hgb]
 clear hga hgb
 obtain ⟨ho, hho⟩ : ∃ z, homeB d m a b s = z := ⟨_, rfl⟩
 obtain ⟨hi, hhi⟩ : ∃ z, PtrAsk.isH a b s = z := ⟨_, rfl⟩
 obtain ⟨dn, hdn⟩ : ∃ z, d.down = z := ⟨_, rfl⟩
 rw [hho, hhi] at hhm
 rw [hho] at HHO HYA HYB
 rw [hdn] at HC3
 rw [hho, hhi, hdn]
 have HHM := jq7 hhm
 clear hho hhi hdn hhm
 go_enter Tryz.func14, Tryz.ntmps14
 go_wp2_with (first | ((with_reducible show wkq (.box 31 _) w);refine wpList_box_w (by rfl) 31 _ rfl (.agg X) rfl ?_;intro g1 w1 hb hf hl1 hl2;replace HOO := jq7 (And.intro HOO.o (show w.heap.size ≤ g1 ∧ p < g1 ∧ r < g1 from by have zHF := HF.o.size;have bHDV := Bk.lt HDV.o;have bHRV := Bk.lt HRV.o;have z := HOO.o;omega));replace HF := fq0 HF hf;replace HDV := kq0 hf HDV;replace HRV := kq0 hf HRV;have HX : Jq7 (Bk w1 g1 X 31) := jq7 hb;clear hb hf hl1 hl2) | ((with_reducible show wkq (.alloc 47) w1);refine wpList_alloc_w (by rfl) 47 rfl (.agg (RP 0 0 0)) zero_rp ?_;intro g2 w2 hb hf hl1 hl2;replace HOO := jq7 (And.intro HOO.o (show w.heap.size ≤ g2 ∧ p < g2 ∧ r < g2 ∧ g1 < g2 from by have zHF := HF.o.size;have bHDV := Bk.lt HDV.o;have bHRV := Bk.lt HRV.o;have bHX := Bk.lt HX.o;have z := HOO.o;omega));replace HF := fq0 HF hf;replace HDV := kq0 hf HDV;replace HRV := kq0 hf HRV;replace HX := kq0 hf HX;have HZ : Jq7 (Bk w2 g2 (RP 0 0 0) 47) := jq7 hb;clear hb hf hl1 hl2) | ((with_reducible show wkq (.alloc 47) w2);refine wpList_alloc_w (by rfl) 47 rfl (.agg (RP 0 0 0)) zero_rp ?_;intro g3 w3 hb hf hl1 hl2;replace HOO := jq7 (And.intro HOO.o (show w.heap.size ≤ g3 ∧ p < g3 ∧ r < g3 ∧ g1 < g3 ∧ g2 < g3 from by have zHF := HF.o.size;have bHDV := Bk.lt HDV.o;have bHRV := Bk.lt HRV.o;have bHX := Bk.lt HX.o;have bHZ := Bk.lt HZ.o;have z := HOO.o;omega));replace HF := fq0 HF hf;replace HDV := kq0 hf HDV;replace HRV := kq0 hf HRV;replace HX := kq0 hf HX;replace HZ := kq0 hf HZ;have HR : Jq7 (Bk w3 g3 (RP 0 0 0) 47) := jq7 hb;clear hb hf hl1 hl2))
 refine wp_region_noPanic ?_
 refine wp_region_held_drew (S := (fun W : World => Bk W g1 X 31 ∧ Bk W p DV0 25 ∧ Bk W r RV0 28 ∧ Bk W g2 (RP 0 0 0) 47 ∧ Bk W g3 (RP 0 0 0) 47 ∧ Fr0 w W)) (by kernel_rfl) (⟨Fr.keep (Fr.drew (Fr.refl (fun _ => False) _)) HX.o (fun h => h), Fr.keep (Fr.drew (Fr.refl (fun _ => False) _)) HDV.o (fun h => h), Fr.keep (Fr.drew (Fr.refl (fun _ => False) _)) HRV.o (fun h => h), Fr.keep (Fr.drew (Fr.refl (fun _ => False) _)) HZ.o (fun h => h), Fr.keep (Fr.drew (Fr.refl (fun _ => False) _)) HR.o (fun h => h), Fr.drew HF.o⟩) (fun hL0 => ?_)
 refine tk0 (i := 0) (v := .pointer (some ⟨p, 0, none⟩)) rfl hL0 ?_
 refine tk0 (i := 1) (v := .pointer (some ⟨p, 0, none⟩)) rfl hL0 ?_
 simp only [Act.put,zA,zB,zC,zD,zE,zF]
 refine tk (i := 2) (v := .agg DV0) rfl (yields_row (by kernel_rfl) 25 _ rfl (p) rfl 25 DV0 (0, 0) _ (fun W h => (h).2.1) Tryz.underlying25 rfl HID.o) hL0 ?_
 refine tk0 (i := 3) (v := .pointer (some ⟨r, 0, none⟩)) rfl hL0 ?_
 simp only [Act.put,zA,zB,zC,zD,zE,zF]
 refine tk0 (i := 4) (v := .pointer (some ⟨r, 0, none⟩)) rfl hL0 ?_
 refine tk (i := 5) (v := .agg RV0) rfl (yields_row (by kernel_rfl) 28 _ rfl (r) rfl 28 RV0 (0, 0) _ (fun W h => (h).2.2.1) Tryz.underlying28 rfl HIR.o) hL0 ?_
 simp only [Act.put,zA,zB,zC,zD,zE,zF]
 refine tk (i := 6) (v := .agg X) rfl (yields_row (by kernel_rfl) 31 _ rfl (g1) rfl 31 X (0, 0) _ (fun W h => (h).1) Tryz.underlying31 rfl HIP.o) hL0 ?_
 simp only [Act.put,zA,zB,zC,zD,zE,zF]
 change wpAnyH _ _ _ _ _ 2 #[true, true, true, true, true, true, true, false, false] _ _
 refine rd1 7 rfl fun K hK => ?_
 simp only [zA, zB, zC]
 go_wp2_with fail
 refine (HHO.o _ ((hL0).2.2.2.2.2)).mono ?_
 rintro e wx0 ⟨rfl, hfx0⟩
 dsimp only
 refine hK.out _ _ (⟨Fr.keep hfx0 (hL0).1 (fun h => h), Fr.keep hfx0 (hL0).2.1 (fun h => h), Fr.keep hfx0 (hL0).2.2.1 (fun h => h), Fr.keep hfx0 (hL0).2.2.2.1 (fun h => h), Fr.keep hfx0 (hL0).2.2.2.2.1 (fun h => h), ((hL0).2.2.2.2.2).then0 hfx0⟩) (fun hL1 => ?_)
 clear hK K hL0
 refine tk (i := 8) (v := .bool (!ho)) rfl (Or.inl ⟨by kernel_rfl, fun w hSw => by go_simp <;> (first | exact beq_iff_eq.1 (by assumption) | exact beq_eq_false_iff_ne.1 (by assumption) | omega)⟩) hL1 ?_
 simp only [Act.put,zA,zB,zC,zD,zE,zF]
 change wpAnyH _ _ _ _ _ 0 #[true, true, true, true, true, true, true, true, true] _ _
 refine wpAnyH_done (by kernel_rfl) ?_ _
 refine NoPanic.normal ?_
 have HEND := jq7 hL1
 clear hL1
 replace HX := jq7 ((HEND.o).1)
 replace HDV := jq7 ((HEND.o).2.1)
 replace HRV := jq7 ((HEND.o).2.2.1)
 replace HZ := jq7 ((HEND.o).2.2.2.1)
 replace HR := jq7 ((HEND.o).2.2.2.2.1)
 replace HF := jq7 ((HEND.o).2.2.2.2.2)
 cases ho with
 | false =>
  go_wp2_with (first | ((with_reducible show wkq (.load 47 _) _);refine lr 47 g3 (RP 0 0 0) HR.o (info_rp 0 0 0) ?_) | ((with_reducible show wkq (.store 47 _ _) wx0);refine wpList_store_row_w (by rfl) 47 _ _ rfl g2 (RP 0 0 0) rfl rfl 47 (RP 0 0 0) HZ.o (info_rp 0 0 0) rfl (one_rp 0 0 0) ?_;intro w4 hb hf hl;replace HF := fqg HF hf;replace HDV := kqg hf HDV;replace HRV := kqg hf HRV;replace HX := kqg hf HX;replace HR := kqg hf HR;replace HZ := jq7 hb;clear hb hf hl))
  refine fin_ct g2 47 (RP 0 0 0) (.int .i64 1) (by rfl) (by rfl) (by rfl) (by rfl) Tryz.underlying47 (by rfl) (info_rp 0 0 0) HZ.o ?_
  exact ⟨rfl, HPS.o.keep0 HF.o, HF.o.weaken (fun _ _ h => h.elim)⟩
 | true =>
  have HEA := jq7 (HYA.o rfl)
  have HEB := jq7 (HYB.o rfl)
  have hiff := (HHM.o rfl).1
  clear HYA HYB HHM
  cases hi with
  | true =>
   have hab : (a == -1) = true := by rw [beq_iff_eq];exact hiff.1 rfl
   clear hiff
   go_wp2_with (first | ((with_reducible show wkq (.load 3 _) _);refine lcq 3 g1 0 (.int .i64 a) ((Bk.cell HX.o 0).trans P0.o) ?_) | ((with_reducible show wkq (.load 47 _) _);refine lr 47 g3 (RP 0 0 0) HR.o (info_rp 0 0 0) ?_) | ((with_reducible show wkq (.store 47 _ _) wx0);refine wpList_store_row_w (by rfl) 47 _ _ rfl g2 (RP 0 0 0) rfl rfl 47 (RP 0 0 0) HZ.o (info_rp 0 0 0) rfl (one_rp 0 0 0) ?_;intro w4 hb hf hl;replace HF := fqg HF hf;replace HDV := kqg hf HDV;replace HRV := kqg hf HRV;replace HX := kqg hf HX;replace HR := kqg hf HR;replace HZ := jq7 hb;clear hb hf hl))
   refine fin_ct g2 47 (RP 0 0 0) (.int .i64 0) (by rfl) (by rfl) (by rfl) (by rfl) Tryz.underlying47 (by rfl) (info_rp 0 0 0) HZ.o ?_
   exact ⟨rfl, HPS.o.keep0 HF.o, HF.o.weaken (fun _ _ h => h.elim)⟩
  | false =>
   have hab : (a == -1) = false := by rw [beq_eq_false_iff_ne];intro e;have := hiff.2 e;cases this
   clear hiff
   cases dn with
   | true =>
    go_wp2_with (first | ((with_reducible show wkq (.load 3 _) _);refine lcq 3 g1 0 (.int .i64 a) ((Bk.cell HX.o 0).trans P0.o) ?_) | ((with_reducible show wkq (.load 4 _) _);refine lcq 4 p 3 (.bool true) (HC3.o _ HF.o) ?_) | ((with_reducible show wkq (.load 47 _) _);refine lr 47 g3 (RP 0 0 0) HR.o (info_rp 0 0 0) ?_) | ((with_reducible show wkq (.store 47 _ _) wx0);refine wpList_store_row_w (by rfl) 47 _ _ rfl g2 (RP 0 0 0) rfl rfl 47 (RP 0 0 0) HZ.o (info_rp 0 0 0) rfl (one_rp 0 0 0) ?_;intro w4 hb hf hl;replace HF := fqg HF hf;replace HDV := kqg hf HDV;replace HRV := kqg hf HRV;replace HX := kqg hf HX;replace HR := kqg hf HR;replace HZ := jq7 hb;clear hb hf hl))
    refine fin_ct g2 47 (RP 0 0 0) (.int .i64 3) (by rfl) (by rfl) (by rfl) (by rfl) Tryz.underlying47 (by rfl) (info_rp 0 0 0) HZ.o ?_
    exact ⟨rfl, HPS.o.keep0 HF.o, HF.o.weaken (fun _ _ h => h.elim)⟩
   | false =>
    go_wp2_with (first | ((with_reducible show wkq (.load 3 _) _);refine lcq 3 g1 0 (.int .i64 a) ((Bk.cell HX.o 0).trans P0.o) ?_) | ((with_reducible show wkq (.load 4 _) _);refine lcq 4 p 3 (.bool false) (HC3.o _ HF.o) ?_))
    simp only [Act.put,zA,zB,zC,zD,zE,zF]
    rename_i K hKA
    have HRESTA : Jq7 (∀ (W : World) (g : Nat), Bk W g1 X 31 ∧ Bk W p DV0 25 ∧ Bk W r RV0 28 ∧ Bk W g2 (RP 0 0 0) 47 ∧ Bk W g3 (RP 0 0 0) 47 ∧ Fr0 w W → Bk W g LA 36 → (g1 < g ∧ p < g ∧ r < g ∧ g2 < g ∧ g3 < g ∧ w.heap.size ≤ g) → K { tmps := #[Value.pointer (some ⟨p, 0, none⟩), Value.pointer (some ⟨r, 0, none⟩), Value.agg X, undef, undef, Value.pointer (some ⟨g1, 0, none⟩), Value.pointer (some ⟨g2, 0, none⟩), Value.int IntKind.i64 0, Value.pointer (some ⟨g3, 0, none⟩), .pointer (some ⟨g, 0, none⟩), .bool ga, undef, undef, undef, Value.pointer (some ⟨p, 0, none⟩), Value.pointer (some ⟨p, 0, none⟩), Value.agg DV0, Value.pointer (some ⟨r, 0, none⟩), Value.pointer (some ⟨r, 0, none⟩), Value.agg RV0, Value.agg X, Value.bool true, Value.bool false, undef, Value.pointer (some ⟨g1, 0, none⟩), Value.int IntKind.i64 a, Value.bool false, undef, Value.pointer (some ⟨p, 0, none⟩), Value.pointer (some ⟨p, 0, none⟩), Value.pointer (some ⟨p, 3, none⟩), Value.bool false, undef, .tuple #[.agg LA, .bool ga], Value.pointer (some ⟨p, 0, none⟩), Value.pointer (some ⟨r, 0, none⟩), Value.pointer (some ⟨r, 0, none⟩), .agg RV0, .agg X, .pointer (some ⟨g1, 0, none⟩), .int .i64 a, .tuple #[.agg LA, .bool ga], .agg LA, .bool ga, undef, undef, undef, undef, undef, undef, undef, undef, undef, undef, undef, undef, undef, undef, undef, undef, undef, undef, undef, undef, undef, undef, undef, undef, undef, undef, undef, undef, undef, undef, undef, undef, undef, undef, undef, undef, undef, undef, undef, undef, undef, undef, undef, undef, undef, undef, undef, undef, undef, undef, undef, undef, undef, undef, undef, undef, undef, undef, undef, undef, undef, undef], defers := [] } W) := jq7 (by
     as_aux_lemma =>
      intro w4 g4 hS hB hg
      refine hKA _ _ ?_
      replace HX := jq7 ((hS).1)
      replace HDV := jq7 ((hS).2.1)
      replace HRV := jq7 ((hS).2.2.1)
      replace HZ := jq7 ((hS).2.2.2.1)
      replace HR := jq7 ((hS).2.2.2.2.1)
      replace HF := jq7 ((hS).2.2.2.2.2)
      have HYA := jq7 hB
      replace HOO := jq7 (And.intro HOO.o hg)
      clear hS hB hg
      by_cases hb1 : b = -1
      ·subst hb1
       cases ga with
       | true =>
        go_wp2_with (first | ((with_reducible show wkq (.store 3 _ _) w4);refine wpList_store_cell_w (by rfl) 3 _ _ rfl g3 0 (.int .i64 1) rfl rfl 47 (RP 0 0 0) (RP 1 0 0) HR.o (by decide) info_i64 rfl (by rfl) ?_;intro w5 hb hf hl;replace HF := fqg HF hf;replace HDV := kqg hf HDV;replace HRV := kqg hf HRV;replace HX := kqg hf HX;replace HZ := kqg hf HZ;replace HYA := kqg hf HYA;replace HR := jq7 hb;clear hb hf hl) | ((with_reducible show wkq (.load 3 _) _);refine lcq 3 g1 1 (.int .i64 (-1)) ((Bk.cell HX.o 1).trans P1.o) ?_) | ((with_reducible show wkq (.load 47 _) _);refine lr 47 g3 (RP 1 0 0) HR.o (info_rp 1 0 0) ?_) | ((with_reducible show wkq (.store 47 _ _) w5);refine wpList_store_row_w (by rfl) 47 _ _ rfl g2 (RP 1 0 0) rfl rfl 47 (RP 0 0 0) HZ.o (info_rp 1 0 0) rfl (one_rp 1 0 0) ?_;intro w6 hb hf hl;replace HF := fqg HF hf;replace HDV := kqg hf HDV;replace HRV := kqg hf HRV;replace HX := kqg hf HX;replace HR := kqg hf HR;replace HYA := kqg hf HYA;replace HZ := jq7 hb;clear hb hf hl))
        refine fin_ct g2 47 (RP 1 0 0) (.int .i64 0) (by rfl) (by rfl) (by rfl) (by rfl) Tryz.underlying47 (by rfl) (info_rp 1 0 0) HZ.o ?_
        exact ⟨rfl, HPS.o.keep0 HF.o, HF.o.weaken (fun _ _ h => h.elim)⟩
       | false =>
        go_wp2_with (first | ((with_reducible show wkq (.store 3 _ _) w4);refine wpList_store_cell_w (by rfl) 3 _ _ rfl g3 0 (.int .i64 1) rfl rfl 47 (RP 0 0 0) (RP 1 0 0) HR.o (by decide) info_i64 rfl (by rfl) ?_;intro w5 hb hf hl;replace HF := fqg HF hf;replace HDV := kqg hf HDV;replace HRV := kqg hf HRV;replace HX := kqg hf HX;replace HZ := kqg hf HZ;replace HYA := kqg hf HYA;replace HR := jq7 hb;clear hb hf hl) | ((with_reducible show wkq (.store 3 _ _) w5);refine wpList_store_cell_w (by rfl) 3 _ _ rfl g3 1 (.int .i64 1) rfl rfl 47 (RP 1 0 0) (RP 1 1 0) HR.o (by decide) info_i64 rfl (by rfl) ?_;intro w6 hb hf hl;replace HF := fqg HF hf;replace HDV := kqg hf HDV;replace HRV := kqg hf HRV;replace HX := kqg hf HX;replace HZ := kqg hf HZ;replace HYA := kqg hf HYA;replace HR := jq7 hb;clear hb hf hl) | ((with_reducible show wkq (.load 3 _) _);refine lcq 3 g1 1 (.int .i64 (-1)) ((Bk.cell HX.o 1).trans P1.o) ?_) | ((with_reducible show wkq (.load 47 _) _);refine lr 47 g3 (RP 1 1 0) HR.o (info_rp 1 1 0) ?_) | ((with_reducible show wkq (.store 47 _ _) w6);refine wpList_store_row_w (by rfl) 47 _ _ rfl g2 (RP 1 1 0) rfl rfl 47 (RP 0 0 0) HZ.o (info_rp 1 1 0) rfl (one_rp 1 1 0) ?_;intro w7 hb hf hl;replace HF := fqg HF hf;replace HDV := kqg hf HDV;replace HRV := kqg hf HRV;replace HX := kqg hf HX;replace HR := kqg hf HR;replace HYA := kqg hf HYA;replace HZ := jq7 hb;clear hb hf hl))
        refine fin_ct g2 47 (RP 1 1 0) (.int .i64 2) (by rfl) (by rfl) (by rfl) (by rfl) Tryz.underlying47 (by rfl) (info_rp 1 1 0) HZ.o ?_
        exact ⟨rfl, HPS.o.keep0 HF.o, HF.o.weaken (fun _ _ h => h.elim)⟩
      ·have hbb : (b == -1) = false := by simpa using hb1
       cases ga with
       | true =>
        go_wp2_with (first | ((with_reducible show wkq (.store 3 _ _) w4);refine wpList_store_cell_w (by rfl) 3 _ _ rfl g3 0 (.int .i64 1) rfl rfl 47 (RP 0 0 0) (RP 1 0 0) HR.o (by decide) info_i64 rfl (by rfl) ?_;intro w5 hb hf hl;replace HF := fqg HF hf;replace HDV := kqg hf HDV;replace HRV := kqg hf HRV;replace HX := kqg hf HX;replace HZ := kqg hf HZ;replace HYA := kqg hf HYA;replace HR := jq7 hb;clear hb hf hl) | ((with_reducible show wkq (.load 3 _) _);refine lcq 3 g1 1 (.int .i64 b) ((Bk.cell HX.o 1).trans P1.o) ?_))
        try simp only [Act.put,zA,zB,zC,zD,zE,zF]
        rename_i K2 hKB
        have HRESTB : Jq7 (∀ (W : World) (g : Nat), Bk W g1 X 31 ∧ Bk W p DV0 25 ∧ Bk W r RV0 28 ∧ Bk W g2 (RP 0 0 0) 47 ∧ Bk W g3 (RP 1 0 0) 47 ∧ Bk W g4 LA 36 ∧ Fr0 w W → Bk W g LBB 36 → (g1 < g ∧ p < g ∧ r < g ∧ g2 < g ∧ g3 < g ∧ g4 < g ∧ w.heap.size ≤ g) → K2 { tmps := #[Value.pointer (some ⟨p, 0, none⟩), Value.pointer (some ⟨r, 0, none⟩), Value.agg X, undef, undef, Value.pointer (some ⟨g1, 0, none⟩), Value.pointer (some ⟨g2, 0, none⟩), Value.int IntKind.i64 0, Value.pointer (some ⟨g3, 0, none⟩), Value.pointer (some ⟨g4, 0, none⟩), Value.bool true, .pointer (some ⟨g, 0, none⟩), .bool gb, undef, Value.pointer (some ⟨p, 0, none⟩), Value.pointer (some ⟨p, 0, none⟩), Value.agg DV0, Value.pointer (some ⟨r, 0, none⟩), Value.pointer (some ⟨r, 0, none⟩), Value.agg RV0, Value.agg X, Value.bool true, Value.bool false, undef, Value.pointer (some ⟨g1, 0, none⟩), Value.int IntKind.i64 a, Value.bool false, undef, Value.pointer (some ⟨p, 0, none⟩), Value.pointer (some ⟨p, 0, none⟩), Value.pointer (some ⟨p, 3, none⟩), Value.bool false, undef, Value.tuple #[Value.agg LA, Value.bool true], Value.pointer (some ⟨p, 0, none⟩), Value.pointer (some ⟨r, 0, none⟩), Value.pointer (some ⟨r, 0, none⟩), Value.agg RV0, Value.agg X, Value.pointer (some ⟨g1, 0, none⟩), Value.int IntKind.i64 a, Value.tuple #[Value.agg LA, Value.bool true], Value.agg LA, Value.bool true, Value.pointer (some ⟨g3, 0, none⟩), Value.bool true, Value.bool false, undef, Value.pointer (some ⟨g1, 1, none⟩), Value.int IntKind.i64 b, Value.bool false, undef, undef, undef, undef, .tuple #[.agg LBB, .bool gb], Value.pointer (some ⟨p, 0, none⟩), Value.pointer (some ⟨r, 0, none⟩), Value.pointer (some ⟨r, 0, none⟩), .agg RV0, .agg X, .pointer (some ⟨g1, 1, none⟩), .int .i64 b, .tuple #[.agg LBB, .bool gb], .agg LBB, .bool gb, undef, undef, undef, undef, undef, undef, undef, undef, undef, undef, undef, undef, undef, undef, undef, undef, undef, undef, undef, undef, undef, undef, undef, undef, undef, undef, undef, undef, undef, undef, undef, undef, undef, undef, undef, undef, undef, undef, undef, undef], defers := [] } W) := jq7 (by
         as_aux_lemma =>
          intro w6 g5 hS hB hg
          refine hKB _ _ ?_
          replace HX := jq7 ((hS).1)
          replace HDV := jq7 ((hS).2.1)
          replace HRV := jq7 ((hS).2.2.1)
          replace HZ := jq7 ((hS).2.2.2.1)
          replace HR := jq7 ((hS).2.2.2.2.1)
          replace HYA := jq7 ((hS).2.2.2.2.2.1)
          replace HF := jq7 ((hS).2.2.2.2.2.2)
          have HYB := jq7 hB
          replace HOO := jq7 (And.intro HOO.o hg)
          clear hS hB hg
          cases gb with
          | true =>
           go_wp2_with (first | ((with_reducible show wkq (.store 3 _ _) w6);refine wpList_store_cell_w (by rfl) 3 _ _ rfl g3 0 (.int .i64 2) rfl rfl 47 (RP 1 0 0) (RP 2 0 0) HR.o (by decide) info_i64 rfl (by rfl) ?_;intro w7 hb hf hl;replace HF := fqg HF hf;replace HDV := kqg hf HDV;replace HRV := kqg hf HRV;replace HX := kqg hf HX;replace HZ := kqg hf HZ;replace HYA := kqg hf HYA;replace HYB := kqg hf HYB;replace HR := jq7 hb;clear hb hf hl) | ((with_reducible show wkq (.load 3 _) _);refine lcq 3 g3 1 (.int .i64 0) ((Bk.cell HR.o 1).trans rfl) ?_) | ((with_reducible show wkq (.load 47 _) _);refine lr 47 g3 (RP 2 0 0) HR.o (info_rp 2 0 0) ?_) | ((with_reducible show wkq (.store 47 _ _) w7);refine wpList_store_row_w (by rfl) 47 _ _ rfl g2 (RP 2 0 0) rfl rfl 47 (RP 0 0 0) HZ.o (info_rp 2 0 0) rfl (one_rp 2 0 0) ?_;intro w8 hb hf hl;replace HF := fqg HF hf;replace HDV := kqg hf HDV;replace HRV := kqg hf HRV;replace HX := kqg hf HX;replace HR := kqg hf HR;replace HYA := kqg hf HYA;replace HYB := kqg hf HYB;replace HZ := jq7 hb;clear hb hf hl))
           refine fin_ct g2 47 (RP 2 0 0) (.int .i64 0) (by rfl) (by rfl) (by rfl) (by rfl) Tryz.underlying47 (by rfl) (info_rp 2 0 0) HZ.o ?_
           exact ⟨rfl, HPS.o.keep0 HF.o, HF.o.weaken (fun _ _ h => h.elim)⟩
          | false =>
           obtain ⟨hd1, hto⟩ := HEB.o
           have HD1 := jq7 hd1
           have HTO := jq7 hto
           clear hd1 hto
           by_cases he0 : heB = 0
           ·subst he0
            go_wp2_with (first | ((with_reducible show wkq (.store 3 _ _) w6);refine wpList_store_cell_w (by rfl) 3 _ _ rfl g3 0 (.int .i64 2) rfl rfl 47 (RP 1 0 0) (RP 2 0 0) HR.o (by decide) info_i64 rfl (by rfl) ?_;intro w7 hb hf hl;replace HF := fqg HF hf;replace HDV := kqg hf HDV;replace HRV := kqg hf HRV;replace HX := kqg hf HX;replace HZ := kqg hf HZ;replace HYA := kqg hf HYA;replace HYB := kqg hf HYB;replace HR := jq7 hb;clear hb hf hl) | ((with_reducible show wkq (.load 3 _) _);refine lcq 3 g3 1 (.int .i64 0) ((Bk.cell HR.o 1).trans rfl) ?_) | ((with_reducible show wkq (.store 3 _ _) w7);refine wpList_store_cell_w (by rfl) 3 _ _ rfl g3 1 (.int .i64 1) rfl rfl 47 (RP 2 0 0) (RP 2 1 0) HR.o (by decide) info_i64 rfl (by rfl) ?_;intro w8 hb hf hl;replace HF := fqg HF hf;replace HDV := kqg hf HDV;replace HRV := kqg hf HRV;replace HX := kqg hf HX;replace HZ := kqg hf HZ;replace HYA := kqg hf HYA;replace HYB := kqg hf HYB;replace HR := jq7 hb;clear hb hf hl) | ((with_reducible show wkq (.load 3 _) _);refine lcq 3 g3 1 (.int .i64 1) ((Bk.cell HR.o 1).trans rfl) ?_) | ((with_reducible show wkq (.load 3 _) _);refine lcq 3 g1 1 (.int .i64 b) ((Bk.cell HX.o 1).trans P1.o) ?_) | ((with_reducible show wkq (.load 36 _) _);refine lr 36 g4 LA HYA.o HIA.o ?_) | (go_at_call 27;(with_reducible refine (HHB.o _ HF.o).mono ?_);rintro e w9 ⟨rfl, hp, hf⟩;replace HX := kqg hf HX;replace HZ := kqg hf HZ;replace HR := kqg hf HR;replace HYA := kqg hf HYA;replace HYB := kqg hf HYB;have HP := jq7 hp;replace HF := jq7 ((HF.o.weaken (fun _ _ h => h.elim)).trans hf);clear hf hp) | ((with_reducible show wkq (.store 3 _ _) w9);refine wpList_store_cell_w (by rfl) 3 _ _ rfl g3 2 (.int .i64 hnB) rfl rfl 47 (RP 2 1 0) (RP 2 1 hnB) HR.o (by decide) info_i64 rfl (by rfl) ?_;intro w10 hb hf hl;replace HX := kqg hf HX;replace HZ := kqg hf HZ;replace HYA := kqg hf HYA;replace HYB := kqg hf HYB;replace HF := fqg HF hf;replace HP := jq7 (PS.pastRP HP.o HD1.o HTO.o HR.o (by decide) (by decide) hf (by have z := HOO.o;omega) (by have z := HOO.o;omega));replace HR := jq7 hb;clear hb hf hl) | ((with_reducible show wkq (.load 47 _) _);refine lr 47 g3 (RP 2 1 hnB) HR.o (info_rp 2 1 hnB) ?_) | ((with_reducible show wkq (.store 47 _ _) w10);refine wpList_store_row_w (by rfl) 47 _ _ rfl g2 (RP 2 1 hnB) rfl rfl 47 (RP 0 0 0) HZ.o (info_rp 2 1 hnB) rfl (one_rp 2 1 hnB) ?_;intro w11 hb hf hl;replace HX := kqg hf HX;replace HR := kqg hf HR;replace HYA := kqg hf HYA;replace HYB := kqg hf HYB;replace HF := fqg HF hf;replace HP := jq7 (PS.pastRP HP.o HD1.o HTO.o HZ.o (by decide) (by decide) hf (by have z := HOO.o;omega) (by have z := HOO.o;omega));replace HZ := jq7 hb;clear hb hf hl))
            refine fin_ct g2 47 (RP 2 1 hnB) (.int .i64 0) (by rfl) (by rfl) (by rfl) (by rfl) Tryz.underlying47 (by rfl) (info_rp 2 1 hnB) HZ.o ?_
            exact ⟨rfl, HP.o, HF.o⟩
           ·have heb : (heB != 0) = true := by simpa using he0
            go_wp2_with (first | ((with_reducible show wkq (.store 3 _ _) w6);refine wpList_store_cell_w (by rfl) 3 _ _ rfl g3 0 (.int .i64 2) rfl rfl 47 (RP 1 0 0) (RP 2 0 0) HR.o (by decide) info_i64 rfl (by rfl) ?_;intro w7 hb hf hl;replace HF := fqg HF hf;replace HDV := kqg hf HDV;replace HRV := kqg hf HRV;replace HX := kqg hf HX;replace HZ := kqg hf HZ;replace HYA := kqg hf HYA;replace HYB := kqg hf HYB;replace HR := jq7 hb;clear hb hf hl) | ((with_reducible show wkq (.load 3 _) _);refine lcq 3 g3 1 (.int .i64 0) ((Bk.cell HR.o 1).trans rfl) ?_) | ((with_reducible show wkq (.store 3 _ _) w7);refine wpList_store_cell_w (by rfl) 3 _ _ rfl g3 1 (.int .i64 1) rfl rfl 47 (RP 2 0 0) (RP 2 1 0) HR.o (by decide) info_i64 rfl (by rfl) ?_;intro w8 hb hf hl;replace HF := fqg HF hf;replace HDV := kqg hf HDV;replace HRV := kqg hf HRV;replace HX := kqg hf HX;replace HZ := kqg hf HZ;replace HYA := kqg hf HYA;replace HYB := kqg hf HYB;replace HR := jq7 hb;clear hb hf hl) | ((with_reducible show wkq (.load 3 _) _);refine lcq 3 g3 1 (.int .i64 1) ((Bk.cell HR.o 1).trans rfl) ?_) | ((with_reducible show wkq (.load 3 _) _);refine lcq 3 g1 1 (.int .i64 b) ((Bk.cell HX.o 1).trans P1.o) ?_) | ((with_reducible show wkq (.load 36 _) _);refine lr 36 g4 LA HYA.o HIA.o ?_) | (go_at_call 27;(with_reducible refine (HHB.o _ HF.o).mono ?_);rintro e w9 ⟨rfl, hp, hf⟩;replace HX := kqg hf HX;replace HZ := kqg hf HZ;replace HR := kqg hf HR;replace HYA := kqg hf HYA;replace HYB := kqg hf HYB;have HP := jq7 hp;replace HF := jq7 ((HF.o.weaken (fun _ _ h => h.elim)).trans hf);clear hf hp) | ((with_reducible show wkq (.store 3 _ _) w9);refine wpList_store_cell_w (by rfl) 3 _ _ rfl g3 2 (.int .i64 hnB) rfl rfl 47 (RP 2 1 0) (RP 2 1 hnB) HR.o (by decide) info_i64 rfl (by rfl) ?_;intro w10 hb hf hl;replace HX := kqg hf HX;replace HZ := kqg hf HZ;replace HYA := kqg hf HYA;replace HYB := kqg hf HYB;replace HF := fqg HF hf;replace HP := jq7 (PS.pastRP HP.o HD1.o HTO.o HR.o (by decide) (by decide) hf (by have z := HOO.o;omega) (by have z := HOO.o;omega));replace HR := jq7 hb;clear hb hf hl) | ((with_reducible show wkq (.build 47 _) _);refine build_ev rfl 47 _ rfl [] (by simp) (RP 0 0 0) built_rp ?_) | ((with_reducible show wkq (.store 47 _ _) w10);refine wpList_store_row_w (by rfl) 47 _ _ rfl g2 (RP 0 0 0) rfl rfl 47 (RP 0 0 0) HZ.o (info_rp 0 0 0) rfl (one_rp 0 0 0) ?_;intro w11 hb hf hl;replace HX := kqg hf HX;replace HR := kqg hf HR;replace HYA := kqg hf HYA;replace HYB := kqg hf HYB;replace HF := fqg HF hf;replace HP := jq7 (PS.pastRP HP.o HD1.o HTO.o HZ.o (by decide) (by decide) hf (by have z := HOO.o;omega) (by have z := HOO.o;omega));replace HZ := jq7 hb;clear hb hf hl))
            refine fin_ct g2 47 (RP 0 0 0) (.int .i64 heB) (by rfl) (by rfl) (by rfl) (by rfl) Tryz.underlying47 (by rfl) (info_rp 0 0 0) HZ.o ?_
            exact ⟨rfl, HP.o, HF.o⟩
         )
        clear hKB
        refine wp_region_noPanic ?_
        refine wp_region_held_drew (S := (fun W : World => Bk W g1 X 31 ∧ Bk W p DV0 25 ∧ Bk W r RV0 28 ∧ Bk W g2 (RP 0 0 0) 47 ∧ Bk W g3 (RP 1 0 0) 47 ∧ Bk W g4 LA 36 ∧ Fr0 w W)) (by kernel_rfl) (⟨Fr.keep (Fr.drew (Fr.refl (fun _ => False) _)) HX.o (fun h => h), Fr.keep (Fr.drew (Fr.refl (fun _ => False) _)) HDV.o (fun h => h), Fr.keep (Fr.drew (Fr.refl (fun _ => False) _)) HRV.o (fun h => h), Fr.keep (Fr.drew (Fr.refl (fun _ => False) _)) HZ.o (fun h => h), Fr.keep (Fr.drew (Fr.refl (fun _ => False) _)) HR.o (fun h => h), Fr.keep (Fr.drew (Fr.refl (fun _ => False) _)) HYA.o (fun h => h), Fr.drew HF.o⟩) (fun hL0 => ?_)
        generalize w5.drew = wd at *
        refine tk0 (i := 0) (v := .pointer (some ⟨p, 0, none⟩)) rfl hL0 ?_
        refine tk0 (i := 1) (v := .pointer (some ⟨r, 0, none⟩)) rfl hL0 ?_
        simp only [Act.put,zA,zB,zC,zD,zE,zF]
        refine tk0 (i := 2) (v := .pointer (some ⟨r, 0, none⟩)) rfl hL0 ?_
        refine tk (i := 3) (v := .agg RV0) rfl (yields_row (by kernel_rfl) 28 _ rfl (r) rfl 28 RV0 (0, 0) _ (fun W h => (h).2.2.1) Tryz.underlying28 rfl HIR.o) hL0 ?_
        simp only [Act.put,zA,zB,zC,zD,zE,zF]
        refine tk (i := 4) (v := .agg X) rfl (yields_row (by kernel_rfl) 31 _ rfl (g1) rfl 31 X (0, 0) _ (fun W h => (h).1) Tryz.underlying31 rfl HIP.o) hL0 ?_
        refine tk0 (i := 5) (v := .pointer (some ⟨g1, 1, none⟩)) rfl hL0 ?_
        simp only [Act.put,zA,zB,zC,zD,zE,zF]
        refine tk (i := 6) (v := .int .i64 b) rfl (Or.inl ⟨by kernel_rfl, fun w hSw => by have hcl := (fun _ h => (Bk.cell (h).1 1).trans P1.o) w hSw;go_simp⟩) hL0 ?_
        simp only [Act.put,zA,zB,zC,zD,zE,zF]
        change wpAnyH _ _ _ _ _ 7 #[true, true, true, true, true, true, true, false, false, false, false, false, false, false] _ _
        refine wpAnyH_ready (rs := [7, 11]) (by kernel_rfl) (by simp) ?_
        refine AllReadyH.cons rfl (fun K hK => ?_) (AllReadyH.cons rfl (fun K hK => ?_) (AllReadyH.nil))
        ·simp only [zA, zB, zC]
         refine (if_pos (by kernel_rfl)).mpr ?_
         go_wp2_with fail
         refine (HGB.o _ ((hL0).2.2.2.2.2.2)).mono ?_
         rintro e wx0 ⟨rfl, hfx0⟩
         dsimp only
         refine hK.out _ _ (⟨Fr.keep hfx0 (hL0).1 (fun h => h), Fr.keep hfx0 (hL0).2.1 (fun h => h), Fr.keep hfx0 (hL0).2.2.1 (fun h => h), Fr.keep hfx0 (hL0).2.2.2.1 (fun h => h), Fr.keep hfx0 (hL0).2.2.2.2.1 (fun h => h), Fr.keep hfx0 (hL0).2.2.2.2.2.1 (fun h => h), ((hL0).2.2.2.2.2.2).then0 hfx0⟩) (fun hL1 => ?_)
         clear hK K hL0
         clear hfx0
         refine tk0 (i := 8) (v := .tuple #[.agg LBB, .bool gb]) rfl hL1 ?_
         refine tk (i := 9) (v := .agg LBB) rfl (Or.inl ⟨by kernel_rfl, fun w hSw => by go_simp⟩) hL1 ?_
         simp only [Act.put,zA,zB,zC,zD,zE,zF]
         refine tk (i := 10) (v := .bool gb) rfl (Or.inl ⟨by kernel_rfl, fun w hSw => by go_simp⟩) hL1 ?_
         simp only [Act.put,zA,zB,zC,zD,zE,zF]
         change wpAnyH _ _ _ _ _ 3 #[true, true, true, true, true, true, true, true, true, true, true, false, false, false] _ _
         refine rd1 11 rfl fun K hK => ?_
         simp only [zA, zB, zC]
         go_wp2_with fail
         have HQ9 : Jq7 (Bk (wx0.alloc (.cells ZB 36)) wx0.heap.size ZB 36) := jq7 (Bk.new wx0 _)
         have HGE : Jq7 (g1 < wx0.heap.size ∧ p < wx0.heap.size ∧ r < wx0.heap.size ∧ g2 < wx0.heap.size ∧ g3 < wx0.heap.size ∧ g4 < wx0.heap.size ∧ w.heap.size ≤ wx0.heap.size) := jq7 (by have b0 := Bk.lt ((hL1).1);have b1 := Bk.lt ((hL1).2.1);have b2 := Bk.lt ((hL1).2.2.1);have b3 := Bk.lt ((hL1).2.2.2.1);have b4 := Bk.lt ((hL1).2.2.2.2.1);have b5 := Bk.lt ((hL1).2.2.2.2.2.1);have zf := ((hL1).2.2.2.2.2.2).size;omega)
         refine hK.out _ _ (⟨Bk.alloc (hL1).1 _, Bk.alloc (hL1).2.1 _, Bk.alloc (hL1).2.2.1 _, Bk.alloc (hL1).2.2.2.1 _, Bk.alloc (hL1).2.2.2.2.1 _, Bk.alloc (hL1).2.2.2.2.2.1 _, Fr.alloc ((hL1).2.2.2.2.2.2) _⟩) (fun hL2 => ?_)
         clear hK K hL1
         generalize wx0.heap.size = gq at *
         generalize (wx0.alloc (.cells ZB 36)) = wx1 at *
         change wpAnyH _ _ _ _ _ 2 #[true, true, true, true, true, true, true, true, true, true, true, true, false, false] _ _
         refine rd1 12 rfl fun K hK => ?_
         simp only [zA, zB, zC]
         have hge := HGE.o
         refine wp_store_row 36 _ _ rfl gq LBB rfl rfl 36 ZB HQ9.o HIB.o HSB.o HOB.o ?_
         replace HQ9 : Jq7 (Bk (wx1.setRow gq LBB) gq LBB 36) := jq7 (ArrKit.Bk.row HQ9.o _)
         refine hK.out _ _ (⟨ArrKit.Bk.rowOther ((hL2).1) _ (by omega), ArrKit.Bk.rowOther ((hL2).2.1) _ (by omega), ArrKit.Bk.rowOther ((hL2).2.2.1) _ (by omega), ArrKit.Bk.rowOther ((hL2).2.2.2.1) _ (by omega), ArrKit.Bk.rowOther ((hL2).2.2.2.2.1) _ (by omega), ArrKit.Bk.rowOther ((hL2).2.2.2.2.2.1) _ (by omega), ArrKit.Fr.row ((hL2).2.2.2.2.2.2) _ _ (.inl (by omega))⟩) (fun hL3 => ?_)
         clear hK K hL2
         generalize (wx1.setRow gq LBB) = wq at *
         refine tk0 (i := 13) (v := .bool gb) rfl hL3 ?_
         simp only [Act.put,zA,zB,zC,zD,zE,zF]
         change wpAnyH _ _ _ _ _ 0 #[true, true, true, true, true, true, true, true, true, true, true, true, true, true] _ _
         refine wpAnyH_done (by kernel_rfl) ?_ _
         refine NoPanic.normal ?_
         have HEND := jq7 hL3
         clear hL3
         exact HRESTB.o wq gq HEND.o HQ9.o HGE.o
        ·simp only [zA, zB, zC]
         refine (if_pos (by kernel_rfl)).mpr ?_
         go_wp2_with fail
         have HQ9 : Jq7 (Bk (wd.alloc (.cells ZB 36)) wd.heap.size ZB 36) := jq7 (Bk.new wd _)
         have HGE : Jq7 (g1 < wd.heap.size ∧ p < wd.heap.size ∧ r < wd.heap.size ∧ g2 < wd.heap.size ∧ g3 < wd.heap.size ∧ g4 < wd.heap.size ∧ w.heap.size ≤ wd.heap.size) := jq7 (by have b0 := Bk.lt ((hL0).1);have b1 := Bk.lt ((hL0).2.1);have b2 := Bk.lt ((hL0).2.2.1);have b3 := Bk.lt ((hL0).2.2.2.1);have b4 := Bk.lt ((hL0).2.2.2.2.1);have b5 := Bk.lt ((hL0).2.2.2.2.2.1);have zf := ((hL0).2.2.2.2.2.2).size;omega)
         refine hK.out _ _ (⟨Bk.alloc (hL0).1 _, Bk.alloc (hL0).2.1 _, Bk.alloc (hL0).2.2.1 _, Bk.alloc (hL0).2.2.2.1 _, Bk.alloc (hL0).2.2.2.2.1 _, Bk.alloc (hL0).2.2.2.2.2.1 _, Fr.alloc ((hL0).2.2.2.2.2.2) _⟩) (fun hL1 => ?_)
         clear hK K hL0
         generalize wd.heap.size = gq at *
         generalize (wd.alloc (.cells ZB 36)) = wx0 at *
         change wpAnyH _ _ _ _ _ 6 #[true, true, true, true, true, true, true, false, false, false, false, true, false, false] _ _
         refine rd1 7 rfl fun K hK => ?_
         simp only [zA, zB, zC]
         go_wp2_with fail
         refine (HGB.o _ ((hL1).2.2.2.2.2.2)).mono ?_
         rintro e wx1 ⟨rfl, hfx1⟩
         dsimp only
         replace HQ9 := kq0 hfx1 HQ9
         refine hK.out _ _ (⟨Fr.keep hfx1 (hL1).1 (fun h => h), Fr.keep hfx1 (hL1).2.1 (fun h => h), Fr.keep hfx1 (hL1).2.2.1 (fun h => h), Fr.keep hfx1 (hL1).2.2.2.1 (fun h => h), Fr.keep hfx1 (hL1).2.2.2.2.1 (fun h => h), Fr.keep hfx1 (hL1).2.2.2.2.2.1 (fun h => h), ((hL1).2.2.2.2.2.2).then0 hfx1⟩) (fun hL2 => ?_)
         clear hK K hL1
         clear hfx1
         refine tk0 (i := 8) (v := .tuple #[.agg LBB, .bool gb]) rfl hL2 ?_
         refine tk (i := 9) (v := .agg LBB) rfl (Or.inl ⟨by kernel_rfl, fun w hSw => by go_simp⟩) hL2 ?_
         simp only [Act.put,zA,zB,zC,zD,zE,zF]
         refine tk (i := 10) (v := .bool gb) rfl (Or.inl ⟨by kernel_rfl, fun w hSw => by go_simp⟩) hL2 ?_
         simp only [Act.put,zA,zB,zC,zD,zE,zF]
         change wpAnyH _ _ _ _ _ 2 #[true, true, true, true, true, true, true, true, true, true, true, true, false, false] _ _
         refine rd1 12 rfl fun K hK => ?_
         simp only [zA, zB, zC]
         have hge := HGE.o
         refine wp_store_row 36 _ _ rfl gq LBB rfl rfl 36 ZB HQ9.o HIB.o HSB.o HOB.o ?_
         replace HQ9 : Jq7 (Bk (wx1.setRow gq LBB) gq LBB 36) := jq7 (ArrKit.Bk.row HQ9.o _)
         refine hK.out _ _ (⟨ArrKit.Bk.rowOther ((hL2).1) _ (by omega), ArrKit.Bk.rowOther ((hL2).2.1) _ (by omega), ArrKit.Bk.rowOther ((hL2).2.2.1) _ (by omega), ArrKit.Bk.rowOther ((hL2).2.2.2.1) _ (by omega), ArrKit.Bk.rowOther ((hL2).2.2.2.2.1) _ (by omega), ArrKit.Bk.rowOther ((hL2).2.2.2.2.2.1) _ (by omega), ArrKit.Fr.row ((hL2).2.2.2.2.2.2) _ _ (.inl (by omega))⟩) (fun hL3 => ?_)
         clear hK K hL2
         generalize (wx1.setRow gq LBB) = wq at *
         refine tk0 (i := 13) (v := .bool gb) rfl hL3 ?_
         simp only [Act.put,zA,zB,zC,zD,zE,zF]
         change wpAnyH _ _ _ _ _ 0 #[true, true, true, true, true, true, true, true, true, true, true, true, true, true] _ _
         refine wpAnyH_done (by kernel_rfl) ?_ _
         refine NoPanic.normal ?_
         have HEND := jq7 hL3
         clear hL3
         exact HRESTB.o wq gq HEND.o HQ9.o HGE.o
       | false =>
        go_wp2_with (first | ((with_reducible show wkq (.store 3 _ _) w4);refine wpList_store_cell_w (by rfl) 3 _ _ rfl g3 0 (.int .i64 1) rfl rfl 47 (RP 0 0 0) (RP 1 0 0) HR.o (by decide) info_i64 rfl (by rfl) ?_;intro w5 hb hf hl;replace HF := fqg HF hf;replace HDV := kqg hf HDV;replace HRV := kqg hf HRV;replace HX := kqg hf HX;replace HZ := kqg hf HZ;replace HYA := kqg hf HYA;replace HR := jq7 hb;clear hb hf hl) | ((with_reducible show wkq (.store 3 _ _) w5);refine wpList_store_cell_w (by rfl) 3 _ _ rfl g3 1 (.int .i64 1) rfl rfl 47 (RP 1 0 0) (RP 1 1 0) HR.o (by decide) info_i64 rfl (by rfl) ?_;intro w6 hb hf hl;replace HF := fqg HF hf;replace HDV := kqg hf HDV;replace HRV := kqg hf HRV;replace HX := kqg hf HX;replace HZ := kqg hf HZ;replace HYA := kqg hf HYA;replace HR := jq7 hb;clear hb hf hl) | ((with_reducible show wkq (.load 3 _) _);refine lcq 3 g1 1 (.int .i64 b) ((Bk.cell HX.o 1).trans P1.o) ?_))
        try simp only [Act.put,zA,zB,zC,zD,zE,zF]
        rename_i K2 hKB
        have HRESTB : Jq7 (∀ (W : World) (g : Nat), Bk W g1 X 31 ∧ Bk W p DV0 25 ∧ Bk W r RV0 28 ∧ Bk W g2 (RP 0 0 0) 47 ∧ Bk W g3 (RP 1 1 0) 47 ∧ Bk W g4 LA 36 ∧ Fr0 w W → Bk W g LBB 36 → (g1 < g ∧ p < g ∧ r < g ∧ g2 < g ∧ g3 < g ∧ g4 < g ∧ w.heap.size ≤ g) → K2 { tmps := #[Value.pointer (some ⟨p, 0, none⟩), Value.pointer (some ⟨r, 0, none⟩), Value.agg X, undef, undef, Value.pointer (some ⟨g1, 0, none⟩), Value.pointer (some ⟨g2, 0, none⟩), Value.int IntKind.i64 0, Value.pointer (some ⟨g3, 0, none⟩), Value.pointer (some ⟨g4, 0, none⟩), Value.bool false, .pointer (some ⟨g, 0, none⟩), .bool gb, undef, Value.pointer (some ⟨p, 0, none⟩), Value.pointer (some ⟨p, 0, none⟩), Value.agg DV0, Value.pointer (some ⟨r, 0, none⟩), Value.pointer (some ⟨r, 0, none⟩), Value.agg RV0, Value.agg X, Value.bool true, Value.bool false, undef, Value.pointer (some ⟨g1, 0, none⟩), Value.int IntKind.i64 a, Value.bool false, undef, Value.pointer (some ⟨p, 0, none⟩), Value.pointer (some ⟨p, 0, none⟩), Value.pointer (some ⟨p, 3, none⟩), Value.bool false, undef, Value.tuple #[Value.agg LA, Value.bool false], Value.pointer (some ⟨p, 0, none⟩), Value.pointer (some ⟨r, 0, none⟩), Value.pointer (some ⟨r, 0, none⟩), Value.agg RV0, Value.agg X, Value.pointer (some ⟨g1, 0, none⟩), Value.int IntKind.i64 a, Value.tuple #[Value.agg LA, Value.bool false], Value.agg LA, Value.bool false, Value.pointer (some ⟨g3, 0, none⟩), Value.bool false, Value.bool true, Value.pointer (some ⟨g3, 1, none⟩), Value.pointer (some ⟨g1, 1, none⟩), Value.int IntKind.i64 b, Value.bool false, undef, undef, undef, undef, .tuple #[.agg LBB, .bool gb], Value.pointer (some ⟨p, 0, none⟩), Value.pointer (some ⟨r, 0, none⟩), Value.pointer (some ⟨r, 0, none⟩), .agg RV0, .agg X, .pointer (some ⟨g1, 1, none⟩), .int .i64 b, .tuple #[.agg LBB, .bool gb], .agg LBB, .bool gb, undef, undef, undef, undef, undef, undef, undef, undef, undef, undef, undef, undef, undef, undef, undef, undef, undef, undef, undef, undef, undef, undef, undef, undef, undef, undef, undef, undef, undef, undef, undef, undef, undef, undef, undef, undef, undef, undef, undef, undef], defers := [] } W) := jq7 (by
         as_aux_lemma =>
          intro w7 g5 hS hB hg
          refine hKB _ _ ?_
          replace HX := jq7 ((hS).1)
          replace HDV := jq7 ((hS).2.1)
          replace HRV := jq7 ((hS).2.2.1)
          replace HZ := jq7 ((hS).2.2.2.1)
          replace HR := jq7 ((hS).2.2.2.2.1)
          replace HYA := jq7 ((hS).2.2.2.2.2.1)
          replace HF := jq7 ((hS).2.2.2.2.2.2)
          have HYB := jq7 hB
          replace HOO := jq7 (And.intro HOO.o hg)
          clear hS hB hg
          cases gb with
          | true =>
           obtain ⟨hd1, hto⟩ := HEA.o
           have HD1 := jq7 hd1
           have HTO := jq7 hto
           clear hd1 hto
           by_cases he0 : heA = 0
           ·subst he0
            go_wp2_with (first | ((with_reducible show wkq (.store 3 _ _) w7);refine wpList_store_cell_w (by rfl) 3 _ _ rfl g3 0 (.int .i64 2) rfl rfl 47 (RP 1 1 0) (RP 2 1 0) HR.o (by decide) info_i64 rfl (by rfl) ?_;intro w8 hb hf hl;replace HF := fqg HF hf;replace HDV := kqg hf HDV;replace HRV := kqg hf HRV;replace HX := kqg hf HX;replace HZ := kqg hf HZ;replace HYA := kqg hf HYA;replace HYB := kqg hf HYB;replace HR := jq7 hb;clear hb hf hl) | ((with_reducible show wkq (.load 3 _) _);refine lcq 3 g3 1 (.int .i64 1) ((Bk.cell HR.o 1).trans rfl) ?_) | ((with_reducible show wkq (.load 3 _) _);refine lcq 3 g1 0 (.int .i64 a) ((Bk.cell HX.o 0).trans P0.o) ?_) | ((with_reducible show wkq (.load 36 _) _);refine lr 36 g5 LBB HYB.o HIB.o ?_) | (go_at_call 27;(with_reducible refine (HHA.o _ HF.o).mono ?_);rintro e w9 ⟨rfl, hp, hf⟩;replace HX := kqg hf HX;replace HZ := kqg hf HZ;replace HR := kqg hf HR;replace HYA := kqg hf HYA;replace HYB := kqg hf HYB;have HP := jq7 hp;replace HF := jq7 ((HF.o.weaken (fun _ _ h => h.elim)).trans hf);clear hf hp) | ((with_reducible show wkq (.store 3 _ _) w9);refine wpList_store_cell_w (by rfl) 3 _ _ rfl g3 2 (.int .i64 hnA) rfl rfl 47 (RP 2 1 0) (RP 2 1 hnA) HR.o (by decide) info_i64 rfl (by rfl) ?_;intro w10 hb hf hl;replace HX := kqg hf HX;replace HZ := kqg hf HZ;replace HYA := kqg hf HYA;replace HYB := kqg hf HYB;replace HF := fqg HF hf;replace HP := jq7 (PS.pastRP HP.o HD1.o HTO.o HR.o (by decide) (by decide) hf (by have z := HOO.o;omega) (by have z := HOO.o;omega));replace HR := jq7 hb;clear hb hf hl) | ((with_reducible show wkq (.load 47 _) _);refine lr 47 g3 (RP 2 1 hnA) HR.o (info_rp 2 1 hnA) ?_) | ((with_reducible show wkq (.store 47 _ _) w10);refine wpList_store_row_w (by rfl) 47 _ _ rfl g2 (RP 2 1 hnA) rfl rfl 47 (RP 0 0 0) HZ.o (info_rp 2 1 hnA) rfl (one_rp 2 1 hnA) ?_;intro w11 hb hf hl;replace HX := kqg hf HX;replace HR := kqg hf HR;replace HYA := kqg hf HYA;replace HYB := kqg hf HYB;replace HF := fqg HF hf;replace HP := jq7 (PS.pastRP HP.o HD1.o HTO.o HZ.o (by decide) (by decide) hf (by have z := HOO.o;omega) (by have z := HOO.o;omega));replace HZ := jq7 hb;clear hb hf hl))
            refine fin_ct g2 47 (RP 2 1 hnA) (.int .i64 0) (by rfl) (by rfl) (by rfl) (by rfl) Tryz.underlying47 (by rfl) (info_rp 2 1 hnA) HZ.o ?_
            exact ⟨rfl, HP.o, HF.o⟩
           ·have heb : (heA != 0) = true := by simpa using he0
            go_wp2_with (first | ((with_reducible show wkq (.store 3 _ _) w7);refine wpList_store_cell_w (by rfl) 3 _ _ rfl g3 0 (.int .i64 2) rfl rfl 47 (RP 1 1 0) (RP 2 1 0) HR.o (by decide) info_i64 rfl (by rfl) ?_;intro w8 hb hf hl;replace HF := fqg HF hf;replace HDV := kqg hf HDV;replace HRV := kqg hf HRV;replace HX := kqg hf HX;replace HZ := kqg hf HZ;replace HYA := kqg hf HYA;replace HYB := kqg hf HYB;replace HR := jq7 hb;clear hb hf hl) | ((with_reducible show wkq (.load 3 _) _);refine lcq 3 g3 1 (.int .i64 1) ((Bk.cell HR.o 1).trans rfl) ?_) | ((with_reducible show wkq (.load 3 _) _);refine lcq 3 g1 0 (.int .i64 a) ((Bk.cell HX.o 0).trans P0.o) ?_) | ((with_reducible show wkq (.load 36 _) _);refine lr 36 g5 LBB HYB.o HIB.o ?_) | (go_at_call 27;(with_reducible refine (HHA.o _ HF.o).mono ?_);rintro e w9 ⟨rfl, hp, hf⟩;replace HX := kqg hf HX;replace HZ := kqg hf HZ;replace HR := kqg hf HR;replace HYA := kqg hf HYA;replace HYB := kqg hf HYB;have HP := jq7 hp;replace HF := jq7 ((HF.o.weaken (fun _ _ h => h.elim)).trans hf);clear hf hp) | ((with_reducible show wkq (.store 3 _ _) w9);refine wpList_store_cell_w (by rfl) 3 _ _ rfl g3 2 (.int .i64 hnA) rfl rfl 47 (RP 2 1 0) (RP 2 1 hnA) HR.o (by decide) info_i64 rfl (by rfl) ?_;intro w10 hb hf hl;replace HX := kqg hf HX;replace HZ := kqg hf HZ;replace HYA := kqg hf HYA;replace HYB := kqg hf HYB;replace HF := fqg HF hf;replace HP := jq7 (PS.pastRP HP.o HD1.o HTO.o HR.o (by decide) (by decide) hf (by have z := HOO.o;omega) (by have z := HOO.o;omega));replace HR := jq7 hb;clear hb hf hl) | ((with_reducible show wkq (.build 47 _) _);refine build_ev rfl 47 _ rfl [] (by simp) (RP 0 0 0) built_rp ?_) | ((with_reducible show wkq (.store 47 _ _) w10);refine wpList_store_row_w (by rfl) 47 _ _ rfl g2 (RP 0 0 0) rfl rfl 47 (RP 0 0 0) HZ.o (info_rp 0 0 0) rfl (one_rp 0 0 0) ?_;intro w11 hb hf hl;replace HX := kqg hf HX;replace HR := kqg hf HR;replace HYA := kqg hf HYA;replace HYB := kqg hf HYB;replace HF := fqg HF hf;replace HP := jq7 (PS.pastRP HP.o HD1.o HTO.o HZ.o (by decide) (by decide) hf (by have z := HOO.o;omega) (by have z := HOO.o;omega));replace HZ := jq7 hb;clear hb hf hl))
            refine fin_ct g2 47 (RP 0 0 0) (.int .i64 heA) (by rfl) (by rfl) (by rfl) (by rfl) Tryz.underlying47 (by rfl) (info_rp 0 0 0) HZ.o ?_
            exact ⟨rfl, HP.o, HF.o⟩
          | false =>
           go_wp2_with (first | ((with_reducible show wkq (.store 3 _ _) w7);refine wpList_store_cell_w (by rfl) 3 _ _ rfl g3 0 (.int .i64 2) rfl rfl 47 (RP 1 1 0) (RP 2 1 0) HR.o (by decide) info_i64 rfl (by rfl) ?_;intro w8 hb hf hl;replace HF := fqg HF hf;replace HDV := kqg hf HDV;replace HRV := kqg hf HRV;replace HX := kqg hf HX;replace HZ := kqg hf HZ;replace HYA := kqg hf HYA;replace HYB := kqg hf HYB;replace HR := jq7 hb;clear hb hf hl) | ((with_reducible show wkq (.load 3 _) _);refine lcq 3 g3 1 (.int .i64 1) ((Bk.cell HR.o 1).trans rfl) ?_) | ((with_reducible show wkq (.store 3 _ _) w8);refine wpList_store_cell_w (by rfl) 3 _ _ rfl g3 1 (.int .i64 2) rfl rfl 47 (RP 2 1 0) (RP 2 2 0) HR.o (by decide) info_i64 rfl (by rfl) ?_;intro w9 hb hf hl;replace HF := fqg HF hf;replace HDV := kqg hf HDV;replace HRV := kqg hf HRV;replace HX := kqg hf HX;replace HZ := kqg hf HZ;replace HYA := kqg hf HYA;replace HYB := kqg hf HYB;replace HR := jq7 hb;clear hb hf hl) | ((with_reducible show wkq (.load 3 _) _);refine lcq 3 g3 1 (.int .i64 2) ((Bk.cell HR.o 1).trans rfl) ?_) | ((with_reducible show wkq (.load 47 _) _);refine lr 47 g3 (RP 2 2 0) HR.o (info_rp 2 2 0) ?_) | ((with_reducible show wkq (.store 47 _ _) w9);refine wpList_store_row_w (by rfl) 47 _ _ rfl g2 (RP 2 2 0) rfl rfl 47 (RP 0 0 0) HZ.o (info_rp 2 2 0) rfl (one_rp 2 2 0) ?_;intro w10 hb hf hl;replace HF := fqg HF hf;replace HDV := kqg hf HDV;replace HRV := kqg hf HRV;replace HX := kqg hf HX;replace HR := kqg hf HR;replace HYA := kqg hf HYA;replace HYB := kqg hf HYB;replace HZ := jq7 hb;clear hb hf hl))
           refine fin_ct g2 47 (RP 2 2 0) (.int .i64 2) (by rfl) (by rfl) (by rfl) (by rfl) Tryz.underlying47 (by rfl) (info_rp 2 2 0) HZ.o ?_
           exact ⟨rfl, HPS.o.keep0 HF.o, HF.o.weaken (fun _ _ h => h.elim)⟩
         )
        clear hKB
        refine wp_region_noPanic ?_
        refine wp_region_held_drew (S := (fun W : World => Bk W g1 X 31 ∧ Bk W p DV0 25 ∧ Bk W r RV0 28 ∧ Bk W g2 (RP 0 0 0) 47 ∧ Bk W g3 (RP 1 1 0) 47 ∧ Bk W g4 LA 36 ∧ Fr0 w W)) (by kernel_rfl) (⟨Fr.keep (Fr.drew (Fr.refl (fun _ => False) _)) HX.o (fun h => h), Fr.keep (Fr.drew (Fr.refl (fun _ => False) _)) HDV.o (fun h => h), Fr.keep (Fr.drew (Fr.refl (fun _ => False) _)) HRV.o (fun h => h), Fr.keep (Fr.drew (Fr.refl (fun _ => False) _)) HZ.o (fun h => h), Fr.keep (Fr.drew (Fr.refl (fun _ => False) _)) HR.o (fun h => h), Fr.keep (Fr.drew (Fr.refl (fun _ => False) _)) HYA.o (fun h => h), Fr.drew HF.o⟩) (fun hL0 => ?_)
        generalize w6.drew = wd at *
        refine tk0 (i := 0) (v := .pointer (some ⟨p, 0, none⟩)) rfl hL0 ?_
        refine tk0 (i := 1) (v := .pointer (some ⟨r, 0, none⟩)) rfl hL0 ?_
        simp only [Act.put,zA,zB,zC,zD,zE,zF]
        refine tk0 (i := 2) (v := .pointer (some ⟨r, 0, none⟩)) rfl hL0 ?_
        refine tk (i := 3) (v := .agg RV0) rfl (yields_row (by kernel_rfl) 28 _ rfl (r) rfl 28 RV0 (0, 0) _ (fun W h => (h).2.2.1) Tryz.underlying28 rfl HIR.o) hL0 ?_
        simp only [Act.put,zA,zB,zC,zD,zE,zF]
        refine tk (i := 4) (v := .agg X) rfl (yields_row (by kernel_rfl) 31 _ rfl (g1) rfl 31 X (0, 0) _ (fun W h => (h).1) Tryz.underlying31 rfl HIP.o) hL0 ?_
        refine tk0 (i := 5) (v := .pointer (some ⟨g1, 1, none⟩)) rfl hL0 ?_
        simp only [Act.put,zA,zB,zC,zD,zE,zF]
        refine tk (i := 6) (v := .int .i64 b) rfl (Or.inl ⟨by kernel_rfl, fun w hSw => by have hcl := (fun _ h => (Bk.cell (h).1 1).trans P1.o) w hSw;go_simp⟩) hL0 ?_
        simp only [Act.put,zA,zB,zC,zD,zE,zF]
        change wpAnyH _ _ _ _ _ 7 #[true, true, true, true, true, true, true, false, false, false, false, false, false, false] _ _
        refine wpAnyH_ready (rs := [7, 11]) (by kernel_rfl) (by simp) ?_
        refine AllReadyH.cons rfl (fun K hK => ?_) (AllReadyH.cons rfl (fun K hK => ?_) (AllReadyH.nil))
        ·simp only [zA, zB, zC]
         refine (if_pos (by kernel_rfl)).mpr ?_
         go_wp2_with fail
         refine (HGB.o _ ((hL0).2.2.2.2.2.2)).mono ?_
         rintro e wx0 ⟨rfl, hfx0⟩
         dsimp only
         refine hK.out _ _ (⟨Fr.keep hfx0 (hL0).1 (fun h => h), Fr.keep hfx0 (hL0).2.1 (fun h => h), Fr.keep hfx0 (hL0).2.2.1 (fun h => h), Fr.keep hfx0 (hL0).2.2.2.1 (fun h => h), Fr.keep hfx0 (hL0).2.2.2.2.1 (fun h => h), Fr.keep hfx0 (hL0).2.2.2.2.2.1 (fun h => h), ((hL0).2.2.2.2.2.2).then0 hfx0⟩) (fun hL1 => ?_)
         clear hK K hL0
         clear hfx0
         refine tk0 (i := 8) (v := .tuple #[.agg LBB, .bool gb]) rfl hL1 ?_
         refine tk (i := 9) (v := .agg LBB) rfl (Or.inl ⟨by kernel_rfl, fun w hSw => by go_simp⟩) hL1 ?_
         simp only [Act.put,zA,zB,zC,zD,zE,zF]
         refine tk (i := 10) (v := .bool gb) rfl (Or.inl ⟨by kernel_rfl, fun w hSw => by go_simp⟩) hL1 ?_
         simp only [Act.put,zA,zB,zC,zD,zE,zF]
         change wpAnyH _ _ _ _ _ 3 #[true, true, true, true, true, true, true, true, true, true, true, false, false, false] _ _
         refine rd1 11 rfl fun K hK => ?_
         simp only [zA, zB, zC]
         go_wp2_with fail
         have HQ9 : Jq7 (Bk (wx0.alloc (.cells ZB 36)) wx0.heap.size ZB 36) := jq7 (Bk.new wx0 _)
         have HGE : Jq7 (g1 < wx0.heap.size ∧ p < wx0.heap.size ∧ r < wx0.heap.size ∧ g2 < wx0.heap.size ∧ g3 < wx0.heap.size ∧ g4 < wx0.heap.size ∧ w.heap.size ≤ wx0.heap.size) := jq7 (by have b0 := Bk.lt ((hL1).1);have b1 := Bk.lt ((hL1).2.1);have b2 := Bk.lt ((hL1).2.2.1);have b3 := Bk.lt ((hL1).2.2.2.1);have b4 := Bk.lt ((hL1).2.2.2.2.1);have b5 := Bk.lt ((hL1).2.2.2.2.2.1);have zf := ((hL1).2.2.2.2.2.2).size;omega)
         refine hK.out _ _ (⟨Bk.alloc (hL1).1 _, Bk.alloc (hL1).2.1 _, Bk.alloc (hL1).2.2.1 _, Bk.alloc (hL1).2.2.2.1 _, Bk.alloc (hL1).2.2.2.2.1 _, Bk.alloc (hL1).2.2.2.2.2.1 _, Fr.alloc ((hL1).2.2.2.2.2.2) _⟩) (fun hL2 => ?_)
         clear hK K hL1
         generalize wx0.heap.size = gq at *
         generalize (wx0.alloc (.cells ZB 36)) = wx1 at *
         change wpAnyH _ _ _ _ _ 2 #[true, true, true, true, true, true, true, true, true, true, true, true, false, false] _ _
         refine rd1 12 rfl fun K hK => ?_
         simp only [zA, zB, zC]
         have hge := HGE.o
         refine wp_store_row 36 _ _ rfl gq LBB rfl rfl 36 ZB HQ9.o HIB.o HSB.o HOB.o ?_
         replace HQ9 : Jq7 (Bk (wx1.setRow gq LBB) gq LBB 36) := jq7 (ArrKit.Bk.row HQ9.o _)
         refine hK.out _ _ (⟨ArrKit.Bk.rowOther ((hL2).1) _ (by omega), ArrKit.Bk.rowOther ((hL2).2.1) _ (by omega), ArrKit.Bk.rowOther ((hL2).2.2.1) _ (by omega), ArrKit.Bk.rowOther ((hL2).2.2.2.1) _ (by omega), ArrKit.Bk.rowOther ((hL2).2.2.2.2.1) _ (by omega), ArrKit.Bk.rowOther ((hL2).2.2.2.2.2.1) _ (by omega), ArrKit.Fr.row ((hL2).2.2.2.2.2.2) _ _ (.inl (by omega))⟩) (fun hL3 => ?_)
         clear hK K hL2
         generalize (wx1.setRow gq LBB) = wq at *
         refine tk0 (i := 13) (v := .bool gb) rfl hL3 ?_
         simp only [Act.put,zA,zB,zC,zD,zE,zF]
         change wpAnyH _ _ _ _ _ 0 #[true, true, true, true, true, true, true, true, true, true, true, true, true, true] _ _
         refine wpAnyH_done (by kernel_rfl) ?_ _
         refine NoPanic.normal ?_
         have HEND := jq7 hL3
         clear hL3
         exact HRESTB.o wq gq HEND.o HQ9.o HGE.o
        ·simp only [zA, zB, zC]
         refine (if_pos (by kernel_rfl)).mpr ?_
         go_wp2_with fail
         have HQ9 : Jq7 (Bk (wd.alloc (.cells ZB 36)) wd.heap.size ZB 36) := jq7 (Bk.new wd _)
         have HGE : Jq7 (g1 < wd.heap.size ∧ p < wd.heap.size ∧ r < wd.heap.size ∧ g2 < wd.heap.size ∧ g3 < wd.heap.size ∧ g4 < wd.heap.size ∧ w.heap.size ≤ wd.heap.size) := jq7 (by have b0 := Bk.lt ((hL0).1);have b1 := Bk.lt ((hL0).2.1);have b2 := Bk.lt ((hL0).2.2.1);have b3 := Bk.lt ((hL0).2.2.2.1);have b4 := Bk.lt ((hL0).2.2.2.2.1);have b5 := Bk.lt ((hL0).2.2.2.2.2.1);have zf := ((hL0).2.2.2.2.2.2).size;omega)
         refine hK.out _ _ (⟨Bk.alloc (hL0).1 _, Bk.alloc (hL0).2.1 _, Bk.alloc (hL0).2.2.1 _, Bk.alloc (hL0).2.2.2.1 _, Bk.alloc (hL0).2.2.2.2.1 _, Bk.alloc (hL0).2.2.2.2.2.1 _, Fr.alloc ((hL0).2.2.2.2.2.2) _⟩) (fun hL1 => ?_)
         clear hK K hL0
         generalize wd.heap.size = gq at *
         generalize (wd.alloc (.cells ZB 36)) = wx0 at *
         change wpAnyH _ _ _ _ _ 6 #[true, true, true, true, true, true, true, false, false, false, false, true, false, false] _ _
         refine rd1 7 rfl fun K hK => ?_
         simp only [zA, zB, zC]
         go_wp2_with fail
         refine (HGB.o _ ((hL1).2.2.2.2.2.2)).mono ?_
         rintro e wx1 ⟨rfl, hfx1⟩
         dsimp only
         replace HQ9 := kq0 hfx1 HQ9
         refine hK.out _ _ (⟨Fr.keep hfx1 (hL1).1 (fun h => h), Fr.keep hfx1 (hL1).2.1 (fun h => h), Fr.keep hfx1 (hL1).2.2.1 (fun h => h), Fr.keep hfx1 (hL1).2.2.2.1 (fun h => h), Fr.keep hfx1 (hL1).2.2.2.2.1 (fun h => h), Fr.keep hfx1 (hL1).2.2.2.2.2.1 (fun h => h), ((hL1).2.2.2.2.2.2).then0 hfx1⟩) (fun hL2 => ?_)
         clear hK K hL1
         clear hfx1
         refine tk0 (i := 8) (v := .tuple #[.agg LBB, .bool gb]) rfl hL2 ?_
         refine tk (i := 9) (v := .agg LBB) rfl (Or.inl ⟨by kernel_rfl, fun w hSw => by go_simp⟩) hL2 ?_
         simp only [Act.put,zA,zB,zC,zD,zE,zF]
         refine tk (i := 10) (v := .bool gb) rfl (Or.inl ⟨by kernel_rfl, fun w hSw => by go_simp⟩) hL2 ?_
         simp only [Act.put,zA,zB,zC,zD,zE,zF]
         change wpAnyH _ _ _ _ _ 2 #[true, true, true, true, true, true, true, true, true, true, true, true, false, false] _ _
         refine rd1 12 rfl fun K hK => ?_
         simp only [zA, zB, zC]
         have hge := HGE.o
         refine wp_store_row 36 _ _ rfl gq LBB rfl rfl 36 ZB HQ9.o HIB.o HSB.o HOB.o ?_
         replace HQ9 : Jq7 (Bk (wx1.setRow gq LBB) gq LBB 36) := jq7 (ArrKit.Bk.row HQ9.o _)
         refine hK.out _ _ (⟨ArrKit.Bk.rowOther ((hL2).1) _ (by omega), ArrKit.Bk.rowOther ((hL2).2.1) _ (by omega), ArrKit.Bk.rowOther ((hL2).2.2.1) _ (by omega), ArrKit.Bk.rowOther ((hL2).2.2.2.1) _ (by omega), ArrKit.Bk.rowOther ((hL2).2.2.2.2.1) _ (by omega), ArrKit.Bk.rowOther ((hL2).2.2.2.2.2.1) _ (by omega), ArrKit.Fr.row ((hL2).2.2.2.2.2.2) _ _ (.inl (by omega))⟩) (fun hL3 => ?_)
         clear hK K hL2
         generalize (wx1.setRow gq LBB) = wq at *
         refine tk0 (i := 13) (v := .bool gb) rfl hL3 ?_
         simp only [Act.put,zA,zB,zC,zD,zE,zF]
         change wpAnyH _ _ _ _ _ 0 #[true, true, true, true, true, true, true, true, true, true, true, true, true, true] _ _
         refine wpAnyH_done (by kernel_rfl) ?_ _
         refine NoPanic.normal ?_
         have HEND := jq7 hL3
         clear hL3
         exact HRESTB.o wq gq HEND.o HQ9.o HGE.o
     )
    clear hKA
    refine wp_region_noPanic ?_
    refine wp_region_held_drew (S := (fun W : World => Bk W g1 X 31 ∧ Bk W p DV0 25 ∧ Bk W r RV0 28 ∧ Bk W g2 (RP 0 0 0) 47 ∧ Bk W g3 (RP 0 0 0) 47 ∧ Fr0 w W)) (by kernel_rfl) (⟨Fr.keep (Fr.drew (Fr.refl (fun _ => False) _)) HX.o (fun h => h), Fr.keep (Fr.drew (Fr.refl (fun _ => False) _)) HDV.o (fun h => h), Fr.keep (Fr.drew (Fr.refl (fun _ => False) _)) HRV.o (fun h => h), Fr.keep (Fr.drew (Fr.refl (fun _ => False) _)) HZ.o (fun h => h), Fr.keep (Fr.drew (Fr.refl (fun _ => False) _)) HR.o (fun h => h), Fr.drew HF.o⟩) (fun hL0 => ?_)
    generalize wx0.drew = wd at *
    refine tk0 (i := 0) (v := .pointer (some ⟨p, 0, none⟩)) rfl hL0 ?_
    refine tk0 (i := 1) (v := .pointer (some ⟨r, 0, none⟩)) rfl hL0 ?_
    simp only [Act.put,zA,zB,zC,zD,zE,zF]
    refine tk0 (i := 2) (v := .pointer (some ⟨r, 0, none⟩)) rfl hL0 ?_
    refine tk (i := 3) (v := .agg RV0) rfl (yields_row (by kernel_rfl) 28 _ rfl (r) rfl 28 RV0 (0, 0) _ (fun W h => (h).2.2.1) Tryz.underlying28 rfl HIR.o) hL0 ?_
    simp only [Act.put,zA,zB,zC,zD,zE,zF]
    refine tk (i := 4) (v := .agg X) rfl (yields_row (by kernel_rfl) 31 _ rfl (g1) rfl 31 X (0, 0) _ (fun W h => (h).1) Tryz.underlying31 rfl HIP.o) hL0 ?_
    refine tk0 (i := 5) (v := .pointer (some ⟨g1, 0, none⟩)) rfl hL0 ?_
    simp only [Act.put,zA,zB,zC,zD,zE,zF]
    refine tk (i := 6) (v := .int .i64 a) rfl (Or.inl ⟨by kernel_rfl, fun w hSw => by have hcl := (fun _ h => (Bk.cell (h).1 0).trans P0.o) w hSw;go_simp⟩) hL0 ?_
    simp only [Act.put,zA,zB,zC,zD,zE,zF]
    change wpAnyH _ _ _ _ _ 7 #[true, true, true, true, true, true, true, false, false, false, false, false, false, false] _ _
    refine wpAnyH_ready (rs := [7, 11]) (by kernel_rfl) (by simp) ?_
    refine AllReadyH.cons rfl (fun K hK => ?_) (AllReadyH.cons rfl (fun K hK => ?_) (AllReadyH.nil))
    ·simp only [zA, zB, zC]
     refine (if_pos (by kernel_rfl)).mpr ?_
     go_wp2_with fail
     refine (HGA.o _ ((hL0).2.2.2.2.2)).mono ?_
     rintro e wx0 ⟨rfl, hfx0⟩
     dsimp only
     refine hK.out _ _ (⟨Fr.keep hfx0 (hL0).1 (fun h => h), Fr.keep hfx0 (hL0).2.1 (fun h => h), Fr.keep hfx0 (hL0).2.2.1 (fun h => h), Fr.keep hfx0 (hL0).2.2.2.1 (fun h => h), Fr.keep hfx0 (hL0).2.2.2.2.1 (fun h => h), ((hL0).2.2.2.2.2).then0 hfx0⟩) (fun hL1 => ?_)
     clear hK K hL0
     clear hfx0
     refine tk0 (i := 8) (v := .tuple #[.agg LA, .bool ga]) rfl hL1 ?_
     refine tk (i := 9) (v := .agg LA) rfl (Or.inl ⟨by kernel_rfl, fun w hSw => by go_simp⟩) hL1 ?_
     simp only [Act.put,zA,zB,zC,zD,zE,zF]
     refine tk (i := 10) (v := .bool ga) rfl (Or.inl ⟨by kernel_rfl, fun w hSw => by go_simp⟩) hL1 ?_
     simp only [Act.put,zA,zB,zC,zD,zE,zF]
     change wpAnyH _ _ _ _ _ 3 #[true, true, true, true, true, true, true, true, true, true, true, false, false, false] _ _
     refine rd1 11 rfl fun K hK => ?_
     simp only [zA, zB, zC]
     go_wp2_with fail
     have HQ9 : Jq7 (Bk (wx0.alloc (.cells ZB 36)) wx0.heap.size ZB 36) := jq7 (Bk.new wx0 _)
     have HGE : Jq7 (g1 < wx0.heap.size ∧ p < wx0.heap.size ∧ r < wx0.heap.size ∧ g2 < wx0.heap.size ∧ g3 < wx0.heap.size ∧ w.heap.size ≤ wx0.heap.size) := jq7 (by have b0 := Bk.lt ((hL1).1);have b1 := Bk.lt ((hL1).2.1);have b2 := Bk.lt ((hL1).2.2.1);have b3 := Bk.lt ((hL1).2.2.2.1);have b4 := Bk.lt ((hL1).2.2.2.2.1);have zf := ((hL1).2.2.2.2.2).size;omega)
     refine hK.out _ _ (⟨Bk.alloc (hL1).1 _, Bk.alloc (hL1).2.1 _, Bk.alloc (hL1).2.2.1 _, Bk.alloc (hL1).2.2.2.1 _, Bk.alloc (hL1).2.2.2.2.1 _, Fr.alloc ((hL1).2.2.2.2.2) _⟩) (fun hL2 => ?_)
     clear hK K hL1
     generalize wx0.heap.size = gq at *
     generalize (wx0.alloc (.cells ZB 36)) = wx1 at *
     change wpAnyH _ _ _ _ _ 2 #[true, true, true, true, true, true, true, true, true, true, true, true, false, false] _ _
     refine rd1 12 rfl fun K hK => ?_
     simp only [zA, zB, zC]
     have hge := HGE.o
     refine wp_store_row 36 _ _ rfl gq LA rfl rfl 36 ZB HQ9.o HIA.o HSA.o HOA.o ?_
     replace HQ9 : Jq7 (Bk (wx1.setRow gq LA) gq LA 36) := jq7 (ArrKit.Bk.row HQ9.o _)
     refine hK.out _ _ (⟨ArrKit.Bk.rowOther ((hL2).1) _ (by omega), ArrKit.Bk.rowOther ((hL2).2.1) _ (by omega), ArrKit.Bk.rowOther ((hL2).2.2.1) _ (by omega), ArrKit.Bk.rowOther ((hL2).2.2.2.1) _ (by omega), ArrKit.Bk.rowOther ((hL2).2.2.2.2.1) _ (by omega), ArrKit.Fr.row ((hL2).2.2.2.2.2) _ _ (.inl (by omega))⟩) (fun hL3 => ?_)
     clear hK K hL2
     generalize (wx1.setRow gq LA) = wq at *
     refine tk0 (i := 13) (v := .bool ga) rfl hL3 ?_
     simp only [Act.put,zA,zB,zC,zD,zE,zF]
     change wpAnyH _ _ _ _ _ 0 #[true, true, true, true, true, true, true, true, true, true, true, true, true, true] _ _
     refine wpAnyH_done (by kernel_rfl) ?_ _
     refine NoPanic.normal ?_
     have HEND := jq7 hL3
     clear hL3
     exact HRESTA.o wq gq HEND.o HQ9.o HGE.o
    ·simp only [zA, zB, zC]
     refine (if_pos (by kernel_rfl)).mpr ?_
     go_wp2_with fail
     have HQ9 : Jq7 (Bk (wd.alloc (.cells ZB 36)) wd.heap.size ZB 36) := jq7 (Bk.new wd _)
     have HGE : Jq7 (g1 < wd.heap.size ∧ p < wd.heap.size ∧ r < wd.heap.size ∧ g2 < wd.heap.size ∧ g3 < wd.heap.size ∧ w.heap.size ≤ wd.heap.size) := jq7 (by have b0 := Bk.lt ((hL0).1);have b1 := Bk.lt ((hL0).2.1);have b2 := Bk.lt ((hL0).2.2.1);have b3 := Bk.lt ((hL0).2.2.2.1);have b4 := Bk.lt ((hL0).2.2.2.2.1);have zf := ((hL0).2.2.2.2.2).size;omega)
     refine hK.out _ _ (⟨Bk.alloc (hL0).1 _, Bk.alloc (hL0).2.1 _, Bk.alloc (hL0).2.2.1 _, Bk.alloc (hL0).2.2.2.1 _, Bk.alloc (hL0).2.2.2.2.1 _, Fr.alloc ((hL0).2.2.2.2.2) _⟩) (fun hL1 => ?_)
     clear hK K hL0
     generalize wd.heap.size = gq at *
     generalize (wd.alloc (.cells ZB 36)) = wx0 at *
     change wpAnyH _ _ _ _ _ 6 #[true, true, true, true, true, true, true, false, false, false, false, true, false, false] _ _
     refine rd1 7 rfl fun K hK => ?_
     simp only [zA, zB, zC]
     go_wp2_with fail
     refine (HGA.o _ ((hL1).2.2.2.2.2)).mono ?_
     rintro e wx1 ⟨rfl, hfx1⟩
     dsimp only
     replace HQ9 := kq0 hfx1 HQ9
     refine hK.out _ _ (⟨Fr.keep hfx1 (hL1).1 (fun h => h), Fr.keep hfx1 (hL1).2.1 (fun h => h), Fr.keep hfx1 (hL1).2.2.1 (fun h => h), Fr.keep hfx1 (hL1).2.2.2.1 (fun h => h), Fr.keep hfx1 (hL1).2.2.2.2.1 (fun h => h), ((hL1).2.2.2.2.2).then0 hfx1⟩) (fun hL2 => ?_)
     clear hK K hL1
     clear hfx1
     refine tk0 (i := 8) (v := .tuple #[.agg LA, .bool ga]) rfl hL2 ?_
     refine tk (i := 9) (v := .agg LA) rfl (Or.inl ⟨by kernel_rfl, fun w hSw => by go_simp⟩) hL2 ?_
     simp only [Act.put,zA,zB,zC,zD,zE,zF]
     refine tk (i := 10) (v := .bool ga) rfl (Or.inl ⟨by kernel_rfl, fun w hSw => by go_simp⟩) hL2 ?_
     simp only [Act.put,zA,zB,zC,zD,zE,zF]
     change wpAnyH _ _ _ _ _ 2 #[true, true, true, true, true, true, true, true, true, true, true, true, false, false] _ _
     refine rd1 12 rfl fun K hK => ?_
     simp only [zA, zB, zC]
     have hge := HGE.o
     refine wp_store_row 36 _ _ rfl gq LA rfl rfl 36 ZB HQ9.o HIA.o HSA.o HOA.o ?_
     replace HQ9 : Jq7 (Bk (wx1.setRow gq LA) gq LA 36) := jq7 (ArrKit.Bk.row HQ9.o _)
     refine hK.out _ _ (⟨ArrKit.Bk.rowOther ((hL2).1) _ (by omega), ArrKit.Bk.rowOther ((hL2).2.1) _ (by omega), ArrKit.Bk.rowOther ((hL2).2.2.1) _ (by omega), ArrKit.Bk.rowOther ((hL2).2.2.2.1) _ (by omega), ArrKit.Bk.rowOther ((hL2).2.2.2.2.1) _ (by omega), ArrKit.Fr.row ((hL2).2.2.2.2.2) _ _ (.inl (by omega))⟩) (fun hL3 => ?_)
     clear hK K hL2
     generalize (wx1.setRow gq LA) = wq at *
     refine tk0 (i := 13) (v := .bool ga) rfl hL3 ?_
     simp only [Act.put,zA,zB,zC,zD,zE,zF]
     change wpAnyH _ _ _ _ _ 0 #[true, true, true, true, true, true, true, true, true, true, true, true, true, true] _ _
     refine wpAnyH_done (by kernel_rfl) ?_ _
     refine NoPanic.normal ?_
     have HEND := jq7 hL3
     clear hL3
     exact HRESTA.o wq gq HEND.o HQ9.o HGE.o

end Go.Proofs.YtmkmpfnadcmcoaaGreatDoor.DitRLook
