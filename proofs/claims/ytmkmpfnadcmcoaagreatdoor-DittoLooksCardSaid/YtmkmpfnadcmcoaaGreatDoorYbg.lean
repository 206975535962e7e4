/- The theorems that the claim uses, text behind text (part 33). -/
import Derived.Test.YtmkmpfnadcmcoaaGreatDoorYar
set_option maxRecDepth 100000
set_option maxHeartbeats 8000000
set_option linter.unusedVariables false
set_option linter.unusedSimpArgs false
namespace Go.Proofs.YtmkmpfnadcmcoaaGreatDoor.DiskRWrite
open Go Go.RowKit K EqKit ArrKit HeldKit GKit GRow DiskKit DiskAsk DiskForm DiskAct DiskNew DiskCopy DiskLay DiskFlush DiskTwins DiskWrite GApp
theorem rwrite_unf (p : Nat) (a : Int) (b : List UInt8) (d : Dk) (sa : Option Addr) (sc : Nat) (ca : Option Addr) (cc : Nat) (w : World) (hok : d.ok) (hv : DAt w p d sa sc ca cc) (hb : b.length = 128) (hr : formedB d = false) : Calls Tryz.prog 76 #[.pointer (some ⟨p, 0, none⟩), .int .i64 a, .agg (b.map B).toArray] w fun e w' => e = .returned (.int .i64 1) ∧ Now w w' p d := by
 have HF0 : Jq7 (Fr0 w (w.alloc (.cells (b.map B).toArray 36))) := jq7 (Fr.alloc (Fr.refl _ _) _)
 have HX0 : Jq7 (Bk (w.alloc (.cells (b.map B).toArray 36)) w.heap.size (b.map B).toArray 36) := jq7 (Bk.new w _)
 have HRI := jq7 (rformed_calls d sa sc ca cc (w.alloc (.cells (b.map B).toArray 36)) (hv.v.keep HF0.o))
 have HTH : Jq7 (∀ W, Calls Tryz.prog 69 #[.agg (dval d sa sc ca cc), .int .i64 a] W fun e w' => e = .returned (.bool (thereB d.S.length a)) ∧ Fr0 W w') := jq7 (fun W => there_calls _ _ _ _ _ _ _ W)
 have HSP := jq7 (fun W (h : Fr0 (w.alloc (.cells (b.map B).toArray 36)) W) => act_calls p d sa sc ca cc W hok ((hv.keep HF0.o).keep h))
 have HV := jq7 hv
 have HV0 := jq7 (hv.keep HF0.o)
 have HOK := jq7 hok
 have hpw : p < w.heap.size := Bk.lt hv.blk
 rw [hr] at HRI
 clear hv hok hr
 go_enter Tryz.func76, Tryz.ntmps76
 go_wp2_with (first | ((with_reducible show wkq (.load 25 _) _);refine lr 25 p _ HV0.o.blk info_d ?_) | (go_at_call 45;(with_reducible refine (HRI.o).mono ?_);rintro e w2 ⟨rfl, hf2⟩;have HFa := jq7 hf2;have HV2 := jq7 (HV0.o.keep hf2);clear hf2))
 go_ret
 exact ⟨rfl, Now.of0 HV.o (HF0.o.then0 HFa.o)⟩

theorem rwrite_out (p : Nat) (a : Int) (b : List UInt8) (d : Dk) (sa : Option Addr) (sc : Nat) (ca : Option Addr) (cc : Nat) (w : World) (hok : d.ok) (hv : DAt w p d sa sc ca cc) (hb : b.length = 128) (hr : formedB d = true) (ht : thereB d.S.length a = false) : Calls Tryz.prog 76 #[.pointer (some ⟨p, 0, none⟩), .int .i64 a, .agg (b.map B).toArray] w fun e w' => e = .returned (.int .i64 1) ∧ Now w w' p d := by
 have HF0 : Jq7 (Fr0 w (w.alloc (.cells (b.map B).toArray 36))) := jq7 (Fr.alloc (Fr.refl _ _) _)
 have HX0 : Jq7 (Bk (w.alloc (.cells (b.map B).toArray 36)) w.heap.size (b.map B).toArray 36) := jq7 (Bk.new w _)
 have HRI := jq7 (rformed_calls d sa sc ca cc (w.alloc (.cells (b.map B).toArray 36)) (hv.v.keep HF0.o))
 have HTH : Jq7 (∀ W, Calls Tryz.prog 69 #[.agg (dval d sa sc ca cc), .int .i64 a] W fun e w' => e = .returned (.bool (thereB d.S.length a)) ∧ Fr0 W w') := jq7 (fun W => there_calls _ _ _ _ _ _ _ W)
 have HSP := jq7 (fun W (h : Fr0 (w.alloc (.cells (b.map B).toArray 36)) W) => act_calls p d sa sc ca cc W hok ((hv.keep HF0.o).keep h))
 have HV := jq7 hv
 have HV0 := jq7 (hv.keep HF0.o)
 have HOK := jq7 hok
 have hpw : p < w.heap.size := Bk.lt hv.blk
 rw [hr] at HRI
 rw [ht] at HTH
 clear hv hok hr ht
 go_enter Tryz.func76, Tryz.ntmps76
 go_wp2_with (first | ((with_reducible show wkq (.load 25 _) _);refine lr 25 p _ HV0.o.blk info_d ?_) | (go_at_call 45;(with_reducible refine (HRI.o).mono ?_);rintro e w2 ⟨rfl, hf2⟩;have HFa := jq7 hf2;have HV2 := jq7 (HV0.o.keep hf2);clear hf2) | ((with_reducible show wkq (.load 25 _) _);refine lr 25 p _ HV2.o.blk info_d ?_) | (go_at_call 69;(with_reducible refine (HTH.o _).mono ?_);rintro e w2b ⟨rfl, hf2⟩;have HF2 := fq0 HFa hf2;clear hf2))
 go_ret
 exact ⟨rfl, Now.of0 HV.o (HF0.o.then0 HF2.o)⟩

theorem rwrite_down (p : Nat) (a : Int) (b : List UInt8) (d : Dk) (sa : Option Addr) (sc : Nat) (ca : Option Addr) (cc : Nat) (w : World) (hok : d.ok) (hv : DAt w p d sa sc ca cc) (hb : b.length = 128) (hr : rightB d a = true) (ha : actE d = 3) : Calls Tryz.prog 76 #[.pointer (some ⟨p, 0, none⟩), .int .i64 a, .agg (b.map B).toArray] w fun e w' => e = .returned (.int .i64 3) ∧ Now w w' p (actD d) := by
 have HF0 : Jq7 (Fr0 w (w.alloc (.cells (b.map B).toArray 36))) := jq7 (Fr.alloc (Fr.refl _ _) _)
 have HX0 : Jq7 (Bk (w.alloc (.cells (b.map B).toArray 36)) w.heap.size (b.map B).toArray 36) := jq7 (Bk.new w _)
 have HRI := jq7 (rformed_calls d sa sc ca cc (w.alloc (.cells (b.map B).toArray 36)) (hv.v.keep HF0.o))
 have HTH : Jq7 (∀ W, Calls Tryz.prog 69 #[.agg (dval d sa sc ca cc), .int .i64 a] W fun e w' => e = .returned (.bool (thereB d.S.length a)) ∧ Fr0 W w') := jq7 (fun W => there_calls _ _ _ _ _ _ _ W)
 have HSP := jq7 (fun W (h : Fr0 (w.alloc (.cells (b.map B).toArray 36)) W) => act_calls p d sa sc ca cc W hok ((hv.keep HF0.o).keep h))
 have HV := jq7 hv
 have HV0 := jq7 (hv.keep HF0.o)
 have HOK := jq7 hok
 have hpw : p < w.heap.size := Bk.lt hv.blk
 have hrb := hr
 rw [rightB, Bool.and_eq_true] at hrb
 rw [hrb.1] at HTH
 rw [hrb.2] at HRI
 clear hrb
 rw [ha] at HSP
 clear hv hok hr ha
 go_enter Tryz.func76, Tryz.ntmps76
 go_wp2_with (first | ((with_reducible show wkq (.load 25 _) _);refine lr 25 p _ HV0.o.blk info_d ?_) | (go_at_call 45;(with_reducible refine (HRI.o).mono ?_);rintro e w2 ⟨rfl, hf2⟩;have HFa := jq7 hf2;have HV2 := jq7 (HV0.o.keep hf2);clear hf2) | ((with_reducible show wkq (.load 25 _) _);refine lr 25 p _ HV2.o.blk info_d ?_) | (go_at_call 69;(with_reducible refine (HTH.o _).mono ?_);rintro e w2b ⟨rfl, hf2⟩;have HF2 := fq0 HFa hf2;clear hf2) | (go_at_call 94;(with_reducible refine (HSP.o _ HF2.o).mono ?_);rintro e w3 ⟨rfl, hf3⟩;have HA3 := jq7 hf3;clear hf3))
 go_ret
 exact ⟨rfl, Now.fr0 (HF0.o.then0 HF2.o) HA3.o.now⟩

theorem rwrite_nw (p : Nat) (a : Int) (b : List UInt8) (d : Dk) (sa : Option Addr) (sc : Nat) (ca : Option Addr) (cc : Nat) (w : World) (hok : d.ok) (hv : DAt w p d sa sc ca cc) (hb : b.length = 128) (hr : rightB d a = true) (ha : actE d = 0) (hn : (secAt d a).nw = true) : Calls Tryz.prog 76 #[.pointer (some ⟨p, 0, none⟩), .int .i64 a, .agg (b.map B).toArray] w fun e w' => e = .returned (.int .i64 2) ∧ Now w w' p (actD d) := by
 have HF0 : Jq7 (Fr0 w (w.alloc (.cells (b.map B).toArray 36))) := jq7 (Fr.alloc (Fr.refl _ _) _)
 have HX0 : Jq7 (Bk (w.alloc (.cells (b.map B).toArray 36)) w.heap.size (b.map B).toArray 36) := jq7 (Bk.new w _)
 have HRI := jq7 (rformed_calls d sa sc ca cc (w.alloc (.cells (b.map B).toArray 36)) (hv.v.keep HF0.o))
 have HTH : Jq7 (∀ W, Calls Tryz.prog 69 #[.agg (dval d sa sc ca cc), .int .i64 a] W fun e w' => e = .returned (.bool (thereB d.S.length a)) ∧ Fr0 W w') := jq7 (fun W => there_calls _ _ _ _ _ _ _ W)
 have HSP := jq7 (fun W (h : Fr0 (w.alloc (.cells (b.map B).toArray 36)) W) => act_calls p d sa sc ca cc W hok ((hv.keep HF0.o).keep h))
 have HV := jq7 hv
 have HV0 := jq7 (hv.keep HF0.o)
 have HOK := jq7 hok
 have hpw : p < w.heap.size := Bk.lt hv.blk
 have hrb := hr
 rw [rightB, Bool.and_eq_true] at hrb
 rw [hrb.1] at HTH
 rw [hrb.2] at HRI
 clear hrb
 have hrt := hr
 rw [rightB, Bool.and_eq_true] at hrt
 have htt := thereB_true.1 hrt.1
 have ha0 := htt.1
 have ha1 := htt.2
 have hq : a.toNat < d.S.length := by omega
 have hsn := hv.v.sn
 have hsm := hv.v.sm
 have hcn := hv.v.cn
 have hcm := hv.v.cm
 have HSX : Jq7 (secAt d a = d.S[a.toNat]) := jq7 (by rw [secAt, List.getD_eq_getElem?_getD, List.getElem?_eq_getElem hq];rfl)
 rw [HSX.o] at hn
 have HAS := jq7 (actD_S d)
 have HAC := jq7 (actD_C d)
 obtain ⟨sb, so, hso, -⟩ := hv.v.rs _ hq
 subst hso
 clear htt hrt
 rw [ha] at HSP
 have HN := jq7 hn
 clear hv hok hr ha hn
 go_enter Tryz.func76, Tryz.ntmps76
 go_wp2_with (first | ((with_reducible show wkq (.load 25 _) _);refine lr 25 p _ HV0.o.blk info_d ?_) | (go_at_call 45;(with_reducible refine (HRI.o).mono ?_);rintro e w2 ⟨rfl, hf2⟩;have HFa := jq7 hf2;have HV2 := jq7 (HV0.o.keep hf2);clear hf2) | ((with_reducible show wkq (.load 25 _) _);refine lr 25 p _ HV2.o.blk info_d ?_) | (go_at_call 69;(with_reducible refine (HTH.o _).mono ?_);rintro e w2b ⟨rfl, hf2⟩;have HF2 := fq0 HFa hf2;clear hf2) | (go_at_call 94;(with_reducible refine (HSP.o _ HF2.o).mono ?_);rintro e w3 ⟨rfl, hf3⟩;have HA3 := jq7 hf3;have q0 : w3.cell? ⟨p, 0, none⟩ = some (.slice (some ⟨sb, so, none⟩) d.S.length sc) := (Bk.cell hf3.at_.blk 0).trans (by show some (Value.slice _ (actD d).S.length _) = _;rw [HAS.o]);have hrg : w3.rangeAt sb (so + a.toNat * 130) d.S[a.toNat].cells := (by have := hf3.at_.v.rs;rw [HAS.o] at this;exact RdG.at this hq);have hnw : w3.cell? ⟨sb, so + a.toNat * 130 + 129, none⟩ = some (.bool true) := (hrg 129 _ (Sec.nw_at (HOK.o.s _ (List.getElem_mem hq)))).trans (by rw [HN.o]);clear hrg;clear hf3))
 go_ret
 exact ⟨rfl, Now.fr0 (HF0.o.then0 HF2.o) HA3.o.now⟩

theorem rwrite_yes (p : Nat) (a : Int) (b : List UInt8) (d : Dk) (sa : Option Addr) (sc : Nat) (ca : Option Addr) (cc : Nat) (w : World) (hok : d.ok) (hv : DAt w p d sa sc ca cc) (hb : b.length = 128) (hC : (d.C.length + 1) * 136 ≤ 140737488355328) (hwa : (Lit.int .i64 a).wf = true) (hr : rightB d a = true) (ha : actE d = 0) (hn : (secAt d a).nw = false) : Calls Tryz.prog 76 #[.pointer (some ⟨p, 0, none⟩), .int .i64 a, .agg (b.map B).toArray] w fun e w' => e = .returned (.int .i64 0) ∧ Now w w' p { actD d with C := d.C ++ [⟨a, b⟩] } := by
 have HF0 : Jq7 (Fr0 w (w.alloc (.cells (b.map B).toArray 36))) := jq7 (Fr.alloc (Fr.refl _ _) _)
 have HX0 : Jq7 (Bk (w.alloc (.cells (b.map B).toArray 36)) w.heap.size (b.map B).toArray 36) := jq7 (Bk.new w _)
 have HRI := jq7 (rformed_calls d sa sc ca cc (w.alloc (.cells (b.map B).toArray 36)) (hv.v.keep HF0.o))
 have HTH : Jq7 (∀ W, Calls Tryz.prog 69 #[.agg (dval d sa sc ca cc), .int .i64 a] W fun e w' => e = .returned (.bool (thereB d.S.length a)) ∧ Fr0 W w') := jq7 (fun W => there_calls _ _ _ _ _ _ _ W)
 have HSP := jq7 (fun W (h : Fr0 (w.alloc (.cells (b.map B).toArray 36)) W) => act_calls p d sa sc ca cc W hok ((hv.keep HF0.o).keep h))
 have HV := jq7 hv
 have HV0 := jq7 (hv.keep HF0.o)
 have HOK := jq7 hok
 have hpw : p < w.heap.size := Bk.lt hv.blk
 have hrb := hr
 rw [rightB, Bool.and_eq_true] at hrb
 rw [hrb.1] at HTH
 rw [hrb.2] at HRI
 clear hrb
 have hrt := hr
 rw [rightB, Bool.and_eq_true] at hrt
 have htt := thereB_true.1 hrt.1
 have ha0 := htt.1
 have ha1 := htt.2
 have hq : a.toNat < d.S.length := by omega
 have hsn := hv.v.sn
 have hsm := hv.v.sm
 have hcn := hv.v.cn
 have hcm := hv.v.cm
 have HSX : Jq7 (secAt d a = d.S[a.toNat]) := jq7 (by rw [secAt, List.getD_eq_getElem?_getD, List.getElem?_eq_getElem hq];rfl)
 rw [HSX.o] at hn
 have HAS := jq7 (actD_S d)
 have HAC := jq7 (actD_C d)
 obtain ⟨sb, so, hso, -⟩ := hv.v.rs _ hq
 subst hso
 clear htt hrt
 rw [ha] at HSP
 have HN := jq7 hn
 have HIX : Jq7 ((Tryz.prog.info? 36).map (·.size) = some (b.map B).toArray.size) := jq7 (by rw [info_b, List.size_toArray, List.length_map, hb])
 have HBW := jq7 (built_wri a b hb)
 have hwok : (Wri.mk a b).ok := ⟨hb, hwa⟩
 have HWOK := jq7 hwok
 have HX2 : Jq7 ((Wri.mk a b).cells.toArray.size = 129) := jq7 (by rw [List.size_toArray, Wri.leng hwok])
 obtain ⟨i1, hi, hz0, hz1, hz2⟩ := info_parts infoW
 have HJ : Jq7 (Tryz.prog.info? 68 = some i1 ∧ i1.zero = some (.agg (Wri.mk 0 Z128).cells.toArray) ∧ i1.size = 129 ∧ i1.bytes = 136) := jq7 ⟨hi, hz0, hz1, hz2⟩
 clear hi hz0 hz1 hz2
 clear hv hok hr ha hn hwok
 go_enter Tryz.func76, Tryz.ntmps76
 go_wp2_with (first | ((with_reducible show wkq (.load 25 _) _);refine lr 25 p _ HV0.o.blk info_d ?_) | (go_at_call 45;(with_reducible refine (HRI.o).mono ?_);rintro e w2 ⟨rfl, hf2⟩;have HFa := jq7 hf2;have HV2 := jq7 (HV0.o.keep hf2);clear hf2) | ((with_reducible show wkq (.load 25 _) _);refine lr 25 p _ HV2.o.blk info_d ?_) | (go_at_call 69;(with_reducible refine (HTH.o _).mono ?_);rintro e w2b ⟨rfl, hf2⟩;have HF2 := fq0 HFa hf2;clear hf2) | (go_at_call 94;(with_reducible refine (HSP.o _ HF2.o).mono ?_);rintro e w3 ⟨rfl, hf3⟩;have HA3 := jq7 hf3;have q0 : w3.cell? ⟨p, 0, none⟩ = some (.slice (some ⟨sb, so, none⟩) d.S.length sc) := (Bk.cell hf3.at_.blk 0).trans (by show some (Value.slice _ (actD d).S.length _) = _;rw [HAS.o]);have hrg : w3.rangeAt sb (so + a.toNat * 130) d.S[a.toNat].cells := (by have := hf3.at_.v.rs;rw [HAS.o] at this;exact RdG.at this hq);have hnw : w3.cell? ⟨sb, so + a.toNat * 130 + 129, none⟩ = some (.bool false) := (hrg 129 _ (Sec.nw_at (HOK.o.s _ (List.getElem_mem hq)))).trans (by rw [HN.o]);clear hrg;clear hf3))
 have HST : Jq7 (Stand [(w.heap.size, .cells (b.map B).toArray 36 (0, 0))] w3) := jq7 (Stand.cons ((HA3.o.fr).keep (HF2.o.keep HX0.o (fun h => h)) (by omega)) (Stand.nil _))
 have HP0 : Jq7 (Bk w3.drew p (dval (actD d) (some ⟨sb, so, none⟩) sc ca cc) 25) := jq7 HA3.o.at_.blk
 have HDV0 : Jq7 (DV w3.drew (actD d) (some ⟨sb, so, none⟩) sc ca cc) := jq7 (HA3.o.at_.v.keep (Fr.drew (Fr.refl _ _)))
 have HRC0 : Jq7 (RdC w3.drew ca d.C) := jq7 (by have := HDV0.o.rc;rwa [HAC.o] at this)
 have HPF0 : Jq7 (Fr (fun i => i = p) w w3.drew) := jq7 (Fr.drew (((HF0.o.then0 HF2.o).weaken (fun _ _ h => h.elim)).trans HA3.o.fr))
 have HB0 : Jq7 (Fr0 w3.drew w3.drew) := jq7 (Fr.refl _ _)
 have HXL : Jq7 (w.heap.size < w3.drew.heap.size) := jq7 (Bk.lt (show w3.heap[w.heap.size]? = _ from Stand.a0 HST.o))
 have HC1 : Jq7 ((dval (actD d) (some ⟨sb, so, none⟩) sc ca cc)[1]? = some (.slice ca d.C.length cc)) := jq7 (by show some (Value.slice ca (actD d).C.length cc) = _;rw [HAC.o])
 have hxp : w.heap.size ≠ p := by omega
 clear q0 hnw
 refine wp_region_noPanic ?_
 refine wp_region_held_drew (S := (Stand [(w.heap.size, .cells (b.map B).toArray 36 (0, 0))])) (by kernel_rfl) (Stand.drew HST.o) (fun hL0 => ?_)
 generalize w3.drew = wd at *
 refine tk0 (i := 0) (v := .pointer (some ⟨p, 0, none⟩)) rfl hL0 ?_
 refine tk0 (i := 2) (v := .pointer (some ⟨p, 0, none⟩)) rfl hL0 ?_
 simp only [Act.put,zA,zB,zC,zD,zE,zF]
 refine tk0 (i := 3) (v := .pointer (some ⟨p, 0, none⟩)) rfl hL0 ?_
 refine tk0 (i := 4) (v := .pointer (some ⟨p, 1, none⟩)) rfl hL0 ?_
 simp only [Act.put,zA,zB,zC,zD,zE,zF]
 refine tk0 (i := 7) (v := .int .i64 a) rfl hL0 ?_
 refine tk (i := 8) (v := .agg (b.map B).toArray) rfl (yields_row (by kernel_rfl) 36 _ rfl (w.heap.size) rfl 36 (b.map B).toArray (0, 0) _ (fun W h => Stand.a0 h) Tryz.underlying36 rfl HIX.o) hL0 ?_
 simp only [Act.put,zA,zB,zC,zD,zE,zF]
 refine tk (i := 9) (v := .agg (Wri.mk a b).cells.toArray) rfl (Or.inl ⟨by kernel_rfl, fun w hSw => GApp.run_build_op 68 _ rfl [(0, .int .i64 a), (1, .agg (b.map B).toArray)] (by simp [Act.eval, Act.put]) _ HBW.o⟩) hL0 ?_
 simp only [Act.put,zA,zB,zC,zD,zE,zF]
 change wpAnyH _ _ _ _ _ 8 #[true, false, true, true, true, false, false, true, true, true, false, false, false, false, false] _ _
 refine wpAnyH_ready (rs := [1, 5, 10]) (by kernel_rfl) (by simp) ?_
 refine AllReadyH.cons rfl (fun K hK => ?_) (AllReadyH.cons rfl (fun K hK => ?_) (AllReadyH.cons rfl (fun K hK => ?_) (AllReadyH.nil)))
 ·simp only [zA, zB, zC]
  refine (if_pos (by kernel_rfl)).mpr ?_
  refine GApp.wp_buildSlice_nil 23 rfl 68 i1 Tryz.underlying23 HJ.o.1 ?_
  refine hK.out _ _ (Stand.fr hL0 (Fr.alloc (Fr.refl (fun _ => False) _) _) (fun _ _ h => h)) (fun hL1 => ?_)
  clear hK K hL0
  have HGE0 : Jq7 (wd.heap.size ≤ wd.heap.size) := jq7 HB0.o.size
  have HB1 : Jq7 (Fr0 wd (wd.alloc (.cells #[] 68))) := jq7 (Fr.then0 HB0.o (Fr.alloc (Fr.refl (fun _ => False) wd) _))
  have HE1 : Jq7 (Bk (wd.alloc (.cells #[] 68)) wd.heap.size #[] 68) := jq7 (Bk.new _ _)
  generalize (wd.alloc (.cells #[] 68)) = wy0 at *
  change wpAnyH _ _ _ _ _ 7 #[true, true, true, true, true, false, false, true, true, true, false, false, false, false, false] _ _
  refine wpAnyH_ready (rs := [5, 10]) (by kernel_rfl) (by simp) ?_
  refine AllReadyH.cons rfl (fun K hK => ?_) (AllReadyH.cons rfl (fun K hK => ?_) (AllReadyH.nil))
  ·simp only [zA, zB, zC]
   refine (if_pos (by kernel_rfl)).mpr ?_
   have hbp := HB1.o.keep HP0.o (fun h => h)
   have q1 : wy0.cell? ⟨p, 1, none⟩ = some (.slice ca d.C.length cc) := (Bk.cell hbp 1).trans HC1.o
   have hlp : p < wy0.heap.size := Bk.lt hbp
   go_wp2_with fail
   refine hK.out _ _ (hL1) (fun hL2 => ?_)
   clear hK K hL1
   clear q1 hlp hbp
   change wpAnyH _ _ _ _ _ 6 #[true, true, true, true, true, true, false, true, true, true, false, false, false, false, false] _ _
   refine wpAnyH_ready (rs := [6, 10]) (by kernel_rfl) (by simp) ?_
   refine AllReadyH.cons rfl (fun K hK => ?_) (AllReadyH.cons rfl (fun K hK => ?_) (AllReadyH.nil))
   ·simp only [zA, zB, zC]
    refine (if_pos (by kernel_rfl)).mpr ?_
    obtain ⟨g, cap, cur, wv, hr5, hg5, ho5, hf5⟩ := run_append_all (P := Tryz.prog) wy0 23 23 i1 _ 136 Tryz.underlying23 HJ.o.1 HJ.o.2.1 HJ.o.2.2.1 HJ.o.2.2.2 ZWC_cells (by decide) (wd.heap.size) HE1.o ca d.C.length cc d.C rfl (RdG.keep HRC0.o HB1.o) (wris_len HOK.o.c) (fun x _ => Wri.one x) (by omega) (by omega)
    have hwge : wd.heap.size ≤ wd.heap.size := HGE0.o
    have hhx : w.heap.size < wd.heap.size := HXL.o
    refine GApp.wp_append_run _ _ 23 rfl _ _ _ rfl rfl hr5 ?_
    refine hK.out _ _ (Stand.fr hL2 hf5 (fun r hr => by simp only [List.mem_cons, List.not_mem_nil, or_false] at hr;subst hr;show ¬ w.heap.size = wd.heap.size;omega)) (fun hL3 => ?_)
    clear hK K hL2
    have HB3 : Jq7 (Fr0 wd wv) := jq7 (Fr.newG HB1.o hf5 hwge)
    have HO3 := jq7 ho5
    have HG3 := jq7 hg5
    clear hr5 hf5 ho5
    change wpAnyH _ _ _ _ _ 5 #[true, true, true, true, true, true, true, true, true, true, false, false, false, false, false] _ _
    refine rd1 10 rfl fun K hK => ?_
    simp only [zA, zB, zC]
    refine GApp.wp_buildSlice_one 23 _ rfl 68 i1 _ 129 Tryz.underlying23 HJ.o.1 HJ.o.2.1 HJ.o.2.2.1 (by decide) (by decide) (Wri.mk a b).cells.toArray HX2.o rfl ?_
    refine hK.out _ _ (Stand.fr hL3 (Fr.alloc (Fr.refl (fun _ => False) _) _) (fun _ _ h => h)) (fun hL4 => ?_)
    clear hK K hL3
    have HB4 : Jq7 (Fr0 wd (wv.alloc (.cells (Wri.mk a b).cells.toArray 68))) := jq7 (Fr.then0 HB3.o (Fr.alloc (Fr.refl (fun _ => False) wv) _))
    have HO4 : Jq7 (OwnW (wv.alloc (.cells (Wri.mk a b).cells.toArray 68)) g cap cur d.C) := jq7 (OwnG.keep HO3.o (Fr.alloc (Fr.refl (fun _ => False) wv) _) (fun h => h))
    have HN4 : Jq7 (Bk (wv.alloc (.cells (Wri.mk a b).cells.toArray 68)) wv.heap.size (Wri.mk a b).cells.toArray 68) := jq7 (Bk.new _ _)
    generalize (wv.alloc (.cells (Wri.mk a b).cells.toArray 68)) = wy3 at *
    change wpAnyH _ _ _ _ _ 4 #[true, true, true, true, true, true, true, true, true, true, true, false, false, false, false] _ _
    refine rd1 11 rfl fun K hK => ?_
    simp only [zA, zB, zC]
    obtain ⟨g2, cap2, cur2, wz, hr6, hg6, ho6, hf6⟩ := GApp.run_append_own1 (P := Tryz.prog) wy3 23 23 i1 _ 136 (wd.heap.size) Tryz.underlying23 HJ.o.1 HJ.o.2.1 HJ.o.2.2.1 HJ.o.2.2.2 ZWC_cells (by decide) g cap cur d.C.length d.C rfl HO4.o HG3.o (wris_len HOK.o.c) (wv.heap.size) 1 ⟨a, b⟩ (Wri.leng HWOK.o) (Wri.one _) HN4.o (by omega) hC
    have hgge : wd.heap.size ≤ g := HG3.o
    refine GApp.wp_append_run _ _ 23 rfl _ _ _ rfl rfl hr6 ?_
    refine hK.out _ _ (Stand.fr hL4 hf6 (fun r hr => by simp only [List.mem_cons, List.not_mem_nil, or_false] at hr;subst hr;show ¬ w.heap.size = g;omega)) (fun hL5 => ?_)
    clear hK K hL4
    have HB5 : Jq7 (Fr0 wd wz) := jq7 (Fr.newG HB4.o hf6 (by omega))
    have HO5 := jq7 ho6
    have HG5 := jq7 hg6
    clear hr6 hf6 ho6 hg6
    refine tk0 (i := 12) (v := .pointer (some ⟨p, 0, none⟩)) rfl hL5 ?_
    refine tk0 (i := 13) (v := .pointer (some ⟨p, 1, none⟩)) rfl hL5 ?_
    simp only [Act.put,zA,zB,zC,zD,zE,zF]
    change wpAnyH _ _ _ _ _ 1 #[true, true, true, true, true, true, true, true, true, true, true, true, true, true, false] _ _
    refine rd1 14 rfl fun K hK => ?_
    simp only [zA, zB, zC]
    have hbp := HB5.o.keep HP0.o (fun h => h)
    have q1 : wz.cell? ⟨p, 1, none⟩ = some (.slice ca d.C.length cc) := (Bk.cell hbp 1).trans HC1.o
    have f1 := Bk.free hbp 1
    go_wp2_with fail
    refine hK.out _ _ (Stand.fr hL5 (Fr.set1 _ _ _ _) (fun r hr => by simp only [List.mem_cons, List.not_mem_nil, or_false] at hr;subst hr;exact hxp)) (fun hL6 => ?_)
    clear hK K hL5
    clear q1 f1 hbp
    change wpAnyH _ _ _ _ _ 0 #[true, true, true, true, true, true, true, true, true, true, true, true, true, true, true] _ _
    refine wpAnyH_done (by kernel_rfl) ?_ _
    refine NoPanic.normal ?_
    have HEND := jq7 hL6
    clear hL6
    go_wp2_with fail
    go_ret
    have hgp : g2 ≠ p := by have h2 := HG5.o;have h3 := Bk.lt HP0.o;omega
    have hbp := HB5.o.keep HP0.o (fun h => h)
    have hfs := Fr.set1 wz p 1 (.slice (some ⟨g2, 0, none⟩) (d.C.length + 1) cap2)
    have hv5 := DV.past (d := actD d) (HDV0.o.keep HB5.o) (actD_ok HOK.o) hfs hbp (dval_no _ _ _ _ _)
    have ho5 := OwnG.keep HO5.o hfs hgp
    refine ⟨rfl, ⟨⟨some ⟨sb, so, none⟩, sc, some ⟨g2, 0, none⟩, cap2, ?_, ?_⟩, (HPF0.o.then0 HB5.o).trans hfs⟩⟩
    ·have := Bk.set hbp 1 (.slice (some ⟨g2, 0, none⟩) (d.C.length + 1) cap2)
     simp only [dval, List.length_append, List.length_cons, List.length_nil]
     exact this
    ·exact ⟨hv5.rs, ho5.rd, hv5.sn, hv5.sm, ho5.room, ho5.max⟩
   ·simp only [zA, zB, zC]
    refine (if_pos (by kernel_rfl)).mpr ?_
    refine GApp.wp_buildSlice_one 23 _ rfl 68 i1 _ 129 Tryz.underlying23 HJ.o.1 HJ.o.2.1 HJ.o.2.2.1 (by decide) (by decide) (Wri.mk a b).cells.toArray HX2.o rfl ?_
    refine hK.out _ _ (Stand.fr hL2 (Fr.alloc (Fr.refl (fun _ => False) _) _) (fun _ _ h => h)) (fun hL3 => ?_)
    clear hK K hL2
    have HNE : Jq7 (¬ wy0.heap.size = wd.heap.size) := jq7 (Nat.ne_of_gt (Bk.lt HE1.o))
    have HB3 : Jq7 (Fr0 wd (wy0.alloc (.cells (Wri.mk a b).cells.toArray 68))) := jq7 (Fr.then0 HB1.o (Fr.alloc (Fr.refl (fun _ => False) wy0) _))
    have HE3 : Jq7 (Bk (wy0.alloc (.cells (Wri.mk a b).cells.toArray 68)) wd.heap.size #[] 68) := jq7 (Fr.keep (Fr.alloc (Fr.refl (fun _ => False) wy0) _) HE1.o (fun h => h))
    have HN3 : Jq7 (Bk (wy0.alloc (.cells (Wri.mk a b).cells.toArray 68)) wy0.heap.size (Wri.mk a b).cells.toArray 68) := jq7 (Bk.new _ _)
    generalize (wy0.alloc (.cells (Wri.mk a b).cells.toArray 68)) = wy2 at *
    change wpAnyH _ _ _ _ _ 5 #[true, true, true, true, true, true, false, true, true, true, true, false, false, false, false] _ _
    refine rd1 6 rfl fun K hK => ?_
    simp only [zA, zB, zC]
    obtain ⟨g, cap, cur, wv, hr5, hg5, ho5, hf5⟩ := run_append_all (P := Tryz.prog) wy2 23 23 i1 _ 136 Tryz.underlying23 HJ.o.1 HJ.o.2.1 HJ.o.2.2.1 HJ.o.2.2.2 ZWC_cells (by decide) (wd.heap.size) HE3.o ca d.C.length cc d.C rfl (RdG.keep HRC0.o HB3.o) (wris_len HOK.o.c) (fun x _ => Wri.one x) (by omega) (by omega)
    have hwge : wd.heap.size ≤ wd.heap.size := HGE0.o
    have hhx : w.heap.size < wd.heap.size := HXL.o
    refine GApp.wp_append_run _ _ 23 rfl _ _ _ rfl rfl hr5 ?_
    refine hK.out _ _ (Stand.fr hL3 hf5 (fun r hr => by simp only [List.mem_cons, List.not_mem_nil, or_false] at hr;subst hr;show ¬ w.heap.size = wd.heap.size;omega)) (fun hL4 => ?_)
    clear hK K hL3
    have HB4 : Jq7 (Fr0 wd wv) := jq7 (Fr.newG HB3.o hf5 hwge)
    have HN4 : Jq7 (Bk wv wy0.heap.size (Wri.mk a b).cells.toArray 68) := jq7 (Fr.keep hf5 HN3.o HNE.o)
    have HO4 := jq7 ho5
    have HG4 := jq7 hg5
    clear hr5 hf5 ho5
    change wpAnyH _ _ _ _ _ 4 #[true, true, true, true, true, true, true, true, true, true, true, false, false, false, false] _ _
    refine rd1 11 rfl fun K hK => ?_
    simp only [zA, zB, zC]
    obtain ⟨g2, cap2, cur2, wz, hr6, hg6, ho6, hf6⟩ := GApp.run_append_own1 (P := Tryz.prog) wv 23 23 i1 _ 136 (wd.heap.size) Tryz.underlying23 HJ.o.1 HJ.o.2.1 HJ.o.2.2.1 HJ.o.2.2.2 ZWC_cells (by decide) g cap cur d.C.length d.C rfl HO4.o HG4.o (wris_len HOK.o.c) (wy0.heap.size) 1 ⟨a, b⟩ (Wri.leng HWOK.o) (Wri.one _) HN4.o (by omega) hC
    have hgge : wd.heap.size ≤ g := HG4.o
    refine GApp.wp_append_run _ _ 23 rfl _ _ _ rfl rfl hr6 ?_
    refine hK.out _ _ (Stand.fr hL4 hf6 (fun r hr => by simp only [List.mem_cons, List.not_mem_nil, or_false] at hr;subst hr;show ¬ w.heap.size = g;omega)) (fun hL5 => ?_)
    clear hK K hL4
    have HB5 : Jq7 (Fr0 wd wz) := jq7 (Fr.newG HB4.o hf6 (by omega))
    have HO5 := jq7 ho6
    have HG5 := jq7 hg6
    clear hr6 hf6 ho6 hg6
    refine tk0 (i := 12) (v := .pointer (some ⟨p, 0, none⟩)) rfl hL5 ?_
    refine tk0 (i := 13) (v := .pointer (some ⟨p, 1, none⟩)) rfl hL5 ?_
    simp only [Act.put,zA,zB,zC,zD,zE,zF]
    change wpAnyH _ _ _ _ _ 1 #[true, true, true, true, true, true, true, true, true, true, true, true, true, true, false] _ _
    refine rd1 14 rfl fun K hK => ?_
    simp only [zA, zB, zC]
    have hbp := HB5.o.keep HP0.o (fun h => h)
    have q1 : wz.cell? ⟨p, 1, none⟩ = some (.slice ca d.C.length cc) := (Bk.cell hbp 1).trans HC1.o
    have f1 := Bk.free hbp 1
    go_wp2_with fail
    refine hK.out _ _ (Stand.fr hL5 (Fr.set1 _ _ _ _) (fun r hr => by simp only [List.mem_cons, List.not_mem_nil, or_false] at hr;subst hr;exact hxp)) (fun hL6 => ?_)
    clear hK K hL5
    clear q1 f1 hbp
    change wpAnyH _ _ _ _ _ 0 #[true, true, true, true, true, true, true, true, true, true, true, true, true, true, true] _ _
    refine wpAnyH_done (by kernel_rfl) ?_ _
    refine NoPanic.normal ?_
    have HEND := jq7 hL6
    clear hL6
    go_wp2_with fail
    go_ret
    have hgp : g2 ≠ p := by have h2 := HG5.o;have h3 := Bk.lt HP0.o;omega
    have hbp := HB5.o.keep HP0.o (fun h => h)
    have hfs := Fr.set1 wz p 1 (.slice (some ⟨g2, 0, none⟩) (d.C.length + 1) cap2)
    have hv5 := DV.past (d := actD d) (HDV0.o.keep HB5.o) (actD_ok HOK.o) hfs hbp (dval_no _ _ _ _ _)
    have ho5 := OwnG.keep HO5.o hfs hgp
    refine ⟨rfl, ⟨⟨some ⟨sb, so, none⟩, sc, some ⟨g2, 0, none⟩, cap2, ?_, ?_⟩, (HPF0.o.then0 HB5.o).trans hfs⟩⟩
    ·have := Bk.set hbp 1 (.slice (some ⟨g2, 0, none⟩) (d.C.length + 1) cap2)
     simp only [dval, List.length_append, List.length_cons, List.length_nil]
     exact this
    ·exact ⟨hv5.rs, ho5.rd, hv5.sn, hv5.sm, ho5.room, ho5.max⟩
  ·simp only [zA, zB, zC]
   refine (if_pos (by kernel_rfl)).mpr ?_
   refine GApp.wp_buildSlice_one 23 _ rfl 68 i1 _ 129 Tryz.underlying23 HJ.o.1 HJ.o.2.1 HJ.o.2.2.1 (by decide) (by decide) (Wri.mk a b).cells.toArray HX2.o rfl ?_
   refine hK.out _ _ (Stand.fr hL1 (Fr.alloc (Fr.refl (fun _ => False) _) _) (fun _ _ h => h)) (fun hL2 => ?_)
   clear hK K hL1
   have HNE : Jq7 (¬ wy0.heap.size = wd.heap.size) := jq7 (Nat.ne_of_gt (Bk.lt HE1.o))
   have HB2 : Jq7 (Fr0 wd (wy0.alloc (.cells (Wri.mk a b).cells.toArray 68))) := jq7 (Fr.then0 HB1.o (Fr.alloc (Fr.refl (fun _ => False) wy0) _))
   have HE2 : Jq7 (Bk (wy0.alloc (.cells (Wri.mk a b).cells.toArray 68)) wd.heap.size #[] 68) := jq7 (Fr.keep (Fr.alloc (Fr.refl (fun _ => False) wy0) _) HE1.o (fun h => h))
   have HN2 : Jq7 (Bk (wy0.alloc (.cells (Wri.mk a b).cells.toArray 68)) wy0.heap.size (Wri.mk a b).cells.toArray 68) := jq7 (Bk.new _ _)
   generalize (wy0.alloc (.cells (Wri.mk a b).cells.toArray 68)) = wy1 at *
   change wpAnyH _ _ _ _ _ 6 #[true, true, true, true, true, false, false, true, true, true, true, false, false, false, false] _ _
   refine rd1 5 rfl fun K hK => ?_
   simp only [zA, zB, zC]
   have hbp := HB2.o.keep HP0.o (fun h => h)
   have q1 : wy1.cell? ⟨p, 1, none⟩ = some (.slice ca d.C.length cc) := (Bk.cell hbp 1).trans HC1.o
   have hlp : p < wy1.heap.size := Bk.lt hbp
   go_wp2_with fail
   refine hK.out _ _ (hL2) (fun hL3 => ?_)
   clear hK K hL2
   clear q1 hlp hbp
   change wpAnyH _ _ _ _ _ 5 #[true, true, true, true, true, true, false, true, true, true, true, false, false, false, false] _ _
   refine rd1 6 rfl fun K hK => ?_
   simp only [zA, zB, zC]
   obtain ⟨g, cap, cur, wv, hr5, hg5, ho5, hf5⟩ := run_append_all (P := Tryz.prog) wy1 23 23 i1 _ 136 Tryz.underlying23 HJ.o.1 HJ.o.2.1 HJ.o.2.2.1 HJ.o.2.2.2 ZWC_cells (by decide) (wd.heap.size) HE2.o ca d.C.length cc d.C rfl (RdG.keep HRC0.o HB2.o) (wris_len HOK.o.c) (fun x _ => Wri.one x) (by omega) (by omega)
   have hwge : wd.heap.size ≤ wd.heap.size := HGE0.o
   have hhx : w.heap.size < wd.heap.size := HXL.o
   refine GApp.wp_append_run _ _ 23 rfl _ _ _ rfl rfl hr5 ?_
   refine hK.out _ _ (Stand.fr hL3 hf5 (fun r hr => by simp only [List.mem_cons, List.not_mem_nil, or_false] at hr;subst hr;show ¬ w.heap.size = wd.heap.size;omega)) (fun hL4 => ?_)
   clear hK K hL3
   have HB4 : Jq7 (Fr0 wd wv) := jq7 (Fr.newG HB2.o hf5 hwge)
   have HN4 : Jq7 (Bk wv wy0.heap.size (Wri.mk a b).cells.toArray 68) := jq7 (Fr.keep hf5 HN2.o HNE.o)
   have HO4 := jq7 ho5
   have HG4 := jq7 hg5
   clear hr5 hf5 ho5
   change wpAnyH _ _ _ _ _ 4 #[true, true, true, true, true, true, true, true, true, true, true, false, false, false, false] _ _
   refine rd1 11 rfl fun K hK => ?_
   simp only [zA, zB, zC]
   obtain ⟨g2, cap2, cur2, wz, hr6, hg6, ho6, hf6⟩ := GApp.run_append_own1 (P := Tryz.prog) wv 23 23 i1 _ 136 (wd.heap.size) Tryz.underlying23 HJ.o.1 HJ.o.2.1 HJ.o.2.2.1 HJ.o.2.2.2 ZWC_cells (by decide) g cap cur d.C.length d.C rfl HO4.o HG4.o (wris_len HOK.o.c) (wy0.heap.size) 1 ⟨a, b⟩ (Wri.leng HWOK.o) (Wri.one _) HN4.o (by omega) hC
   have hgge : wd.heap.size ≤ g := HG4.o
   refine GApp.wp_append_run _ _ 23 rfl _ _ _ rfl rfl hr6 ?_
   refine hK.out _ _ (Stand.fr hL4 hf6 (fun r hr => by simp only [List.mem_cons, List.not_mem_nil, or_false] at hr;subst hr;show ¬ w.heap.size = g;omega)) (fun hL5 => ?_)
   clear hK K hL4
   have HB5 : Jq7 (Fr0 wd wz) := jq7 (Fr.newG HB4.o hf6 (by omega))
   have HO5 := jq7 ho6
   have HG5 := jq7 hg6
   clear hr6 hf6 ho6 hg6
   refine tk0 (i := 12) (v := .pointer (some ⟨p, 0, none⟩)) rfl hL5 ?_
   refine tk0 (i := 13) (v := .pointer (some ⟨p, 1, none⟩)) rfl hL5 ?_
   simp only [Act.put,zA,zB,zC,zD,zE,zF]
   change wpAnyH _ _ _ _ _ 1 #[true, true, true, true, true, true, true, true, true, true, true, true, true, true, false] _ _
   refine rd1 14 rfl fun K hK => ?_
   simp only [zA, zB, zC]
   have hbp := HB5.o.keep HP0.o (fun h => h)
   have q1 : wz.cell? ⟨p, 1, none⟩ = some (.slice ca d.C.length cc) := (Bk.cell hbp 1).trans HC1.o
   have f1 := Bk.free hbp 1
   go_wp2_with fail
   refine hK.out _ _ (Stand.fr hL5 (Fr.set1 _ _ _ _) (fun r hr => by simp only [List.mem_cons, List.not_mem_nil, or_false] at hr;subst hr;exact hxp)) (fun hL6 => ?_)
   clear hK K hL5
   clear q1 f1 hbp
   change wpAnyH _ _ _ _ _ 0 #[true, true, true, true, true, true, true, true, true, true, true, true, true, true, true] _ _
   refine wpAnyH_done (by kernel_rfl) ?_ _
   refine NoPanic.normal ?_
   have HEND := jq7 hL6
   clear hL6
   go_wp2_with fail
   go_ret
   have hgp : g2 ≠ p := by have h2 := HG5.o;have h3 := Bk.lt HP0.o;omega
   have hbp := HB5.o.keep HP0.o (fun h => h)
   have hfs := Fr.set1 wz p 1 (.slice (some ⟨g2, 0, none⟩) (d.C.length + 1) cap2)
   have hv5 := DV.past (d := actD d) (HDV0.o.keep HB5.o) (actD_ok HOK.o) hfs hbp (dval_no _ _ _ _ _)
   have ho5 := OwnG.keep HO5.o hfs hgp
   refine ⟨rfl, ⟨⟨some ⟨sb, so, none⟩, sc, some ⟨g2, 0, none⟩, cap2, ?_, ?_⟩, (HPF0.o.then0 HB5.o).trans hfs⟩⟩
   ·have := Bk.set hbp 1 (.slice (some ⟨g2, 0, none⟩) (d.C.length + 1) cap2)
    simp only [dval, List.length_append, List.length_cons, List.length_nil]
    exact this
   ·exact ⟨hv5.rs, ho5.rd, hv5.sn, hv5.sm, ho5.room, ho5.max⟩
 ·simp only [zA, zB, zC]
  refine (if_pos (by kernel_rfl)).mpr ?_
  have hbp := HB0.o.keep HP0.o (fun h => h)
  have q1 : wd.cell? ⟨p, 1, none⟩ = some (.slice ca d.C.length cc) := (Bk.cell hbp 1).trans HC1.o
  have hlp : p < wd.heap.size := Bk.lt hbp
  go_wp2_with fail
  refine hK.out _ _ (hL0) (fun hL1 => ?_)
  clear hK K hL0
  clear q1 hlp hbp
  change wpAnyH _ _ _ _ _ 7 #[true, false, true, true, true, true, false, true, true, true, false, false, false, false, false] _ _
  refine wpAnyH_ready (rs := [1, 10]) (by kernel_rfl) (by simp) ?_
  refine AllReadyH.cons rfl (fun K hK => ?_) (AllReadyH.cons rfl (fun K hK => ?_) (AllReadyH.nil))
  ·simp only [zA, zB, zC]
   refine (if_pos (by kernel_rfl)).mpr ?_
   refine GApp.wp_buildSlice_nil 23 rfl 68 i1 Tryz.underlying23 HJ.o.1 ?_
   refine hK.out _ _ (Stand.fr hL1 (Fr.alloc (Fr.refl (fun _ => False) _) _) (fun _ _ h => h)) (fun hL2 => ?_)
   clear hK K hL1
   have HGE0 : Jq7 (wd.heap.size ≤ wd.heap.size) := jq7 HB0.o.size
   have HB2 : Jq7 (Fr0 wd (wd.alloc (.cells #[] 68))) := jq7 (Fr.then0 HB0.o (Fr.alloc (Fr.refl (fun _ => False) wd) _))
   have HE2 : Jq7 (Bk (wd.alloc (.cells #[] 68)) wd.heap.size #[] 68) := jq7 (Bk.new _ _)
   generalize (wd.alloc (.cells #[] 68)) = wy1 at *
   change wpAnyH _ _ _ _ _ 6 #[true, true, true, true, true, true, false, true, true, true, false, false, false, false, false] _ _
   refine wpAnyH_ready (rs := [6, 10]) (by kernel_rfl) (by simp) ?_
   refine AllReadyH.cons rfl (fun K hK => ?_) (AllReadyH.cons rfl (fun K hK => ?_) (AllReadyH.nil))
   ·simp only [zA, zB, zC]
    refine (if_pos (by kernel_rfl)).mpr ?_
    obtain ⟨g, cap, cur, wv, hr5, hg5, ho5, hf5⟩ := run_append_all (P := Tryz.prog) wy1 23 23 i1 _ 136 Tryz.underlying23 HJ.o.1 HJ.o.2.1 HJ.o.2.2.1 HJ.o.2.2.2 ZWC_cells (by decide) (wd.heap.size) HE2.o ca d.C.length cc d.C rfl (RdG.keep HRC0.o HB2.o) (wris_len HOK.o.c) (fun x _ => Wri.one x) (by omega) (by omega)
    have hwge : wd.heap.size ≤ wd.heap.size := HGE0.o
    have hhx : w.heap.size < wd.heap.size := HXL.o
    refine GApp.wp_append_run _ _ 23 rfl _ _ _ rfl rfl hr5 ?_
    refine hK.out _ _ (Stand.fr hL2 hf5 (fun r hr => by simp only [List.mem_cons, List.not_mem_nil, or_false] at hr;subst hr;show ¬ w.heap.size = wd.heap.size;omega)) (fun hL3 => ?_)
    clear hK K hL2
    have HB3 : Jq7 (Fr0 wd wv) := jq7 (Fr.newG HB2.o hf5 hwge)
    have HO3 := jq7 ho5
    have HG3 := jq7 hg5
    clear hr5 hf5 ho5
    change wpAnyH _ _ _ _ _ 5 #[true, true, true, true, true, true, true, true, true, true, false, false, false, false, false] _ _
    refine rd1 10 rfl fun K hK => ?_
    simp only [zA, zB, zC]
    refine GApp.wp_buildSlice_one 23 _ rfl 68 i1 _ 129 Tryz.underlying23 HJ.o.1 HJ.o.2.1 HJ.o.2.2.1 (by decide) (by decide) (Wri.mk a b).cells.toArray HX2.o rfl ?_
    refine hK.out _ _ (Stand.fr hL3 (Fr.alloc (Fr.refl (fun _ => False) _) _) (fun _ _ h => h)) (fun hL4 => ?_)
    clear hK K hL3
    have HB4 : Jq7 (Fr0 wd (wv.alloc (.cells (Wri.mk a b).cells.toArray 68))) := jq7 (Fr.then0 HB3.o (Fr.alloc (Fr.refl (fun _ => False) wv) _))
    have HO4 : Jq7 (OwnW (wv.alloc (.cells (Wri.mk a b).cells.toArray 68)) g cap cur d.C) := jq7 (OwnG.keep HO3.o (Fr.alloc (Fr.refl (fun _ => False) wv) _) (fun h => h))
    have HN4 : Jq7 (Bk (wv.alloc (.cells (Wri.mk a b).cells.toArray 68)) wv.heap.size (Wri.mk a b).cells.toArray 68) := jq7 (Bk.new _ _)
    generalize (wv.alloc (.cells (Wri.mk a b).cells.toArray 68)) = wy3 at *
    change wpAnyH _ _ _ _ _ 4 #[true, true, true, true, true, true, true, true, true, true, true, false, false, false, false] _ _
    refine rd1 11 rfl fun K hK => ?_
    simp only [zA, zB, zC]
    obtain ⟨g2, cap2, cur2, wz, hr6, hg6, ho6, hf6⟩ := GApp.run_append_own1 (P := Tryz.prog) wy3 23 23 i1 _ 136 (wd.heap.size) Tryz.underlying23 HJ.o.1 HJ.o.2.1 HJ.o.2.2.1 HJ.o.2.2.2 ZWC_cells (by decide) g cap cur d.C.length d.C rfl HO4.o HG3.o (wris_len HOK.o.c) (wv.heap.size) 1 ⟨a, b⟩ (Wri.leng HWOK.o) (Wri.one _) HN4.o (by omega) hC
    have hgge : wd.heap.size ≤ g := HG3.o
    refine GApp.wp_append_run _ _ 23 rfl _ _ _ rfl rfl hr6 ?_
    refine hK.out _ _ (Stand.fr hL4 hf6 (fun r hr => by simp only [List.mem_cons, List.not_mem_nil, or_false] at hr;subst hr;show ¬ w.heap.size = g;omega)) (fun hL5 => ?_)
    clear hK K hL4
    have HB5 : Jq7 (Fr0 wd wz) := jq7 (Fr.newG HB4.o hf6 (by omega))
    have HO5 := jq7 ho6
    have HG5 := jq7 hg6
    clear hr6 hf6 ho6 hg6
    refine tk0 (i := 12) (v := .pointer (some ⟨p, 0, none⟩)) rfl hL5 ?_
    refine tk0 (i := 13) (v := .pointer (some ⟨p, 1, none⟩)) rfl hL5 ?_
    simp only [Act.put,zA,zB,zC,zD,zE,zF]
    change wpAnyH _ _ _ _ _ 1 #[true, true, true, true, true, true, true, true, true, true, true, true, true, true, false] _ _
    refine rd1 14 rfl fun K hK => ?_
    simp only [zA, zB, zC]
    have hbp := HB5.o.keep HP0.o (fun h => h)
    have q1 : wz.cell? ⟨p, 1, none⟩ = some (.slice ca d.C.length cc) := (Bk.cell hbp 1).trans HC1.o
    have f1 := Bk.free hbp 1
    go_wp2_with fail
    refine hK.out _ _ (Stand.fr hL5 (Fr.set1 _ _ _ _) (fun r hr => by simp only [List.mem_cons, List.not_mem_nil, or_false] at hr;subst hr;exact hxp)) (fun hL6 => ?_)
    clear hK K hL5
    clear q1 f1 hbp
    change wpAnyH _ _ _ _ _ 0 #[true, true, true, true, true, true, true, true, true, true, true, true, true, true, true] _ _
    refine wpAnyH_done (by kernel_rfl) ?_ _
    refine NoPanic.normal ?_
    have HEND := jq7 hL6
    clear hL6
    go_wp2_with fail
    go_ret
    have hgp : g2 ≠ p := by have h2 := HG5.o;have h3 := Bk.lt HP0.o;omega
    have hbp := HB5.o.keep HP0.o (fun h => h)
    have hfs := Fr.set1 wz p 1 (.slice (some ⟨g2, 0, none⟩) (d.C.length + 1) cap2)
    have hv5 := DV.past (d := actD d) (HDV0.o.keep HB5.o) (actD_ok HOK.o) hfs hbp (dval_no _ _ _ _ _)
    have ho5 := OwnG.keep HO5.o hfs hgp
    refine ⟨rfl, ⟨⟨some ⟨sb, so, none⟩, sc, some ⟨g2, 0, none⟩, cap2, ?_, ?_⟩, (HPF0.o.then0 HB5.o).trans hfs⟩⟩
    ·have := Bk.set hbp 1 (.slice (some ⟨g2, 0, none⟩) (d.C.length + 1) cap2)
     simp only [dval, List.length_append, List.length_cons, List.length_nil]
     exact this
    ·exact ⟨hv5.rs, ho5.rd, hv5.sn, hv5.sm, ho5.room, ho5.max⟩
   ·simp only [zA, zB, zC]
    refine (if_pos (by kernel_rfl)).mpr ?_
    refine GApp.wp_buildSlice_one 23 _ rfl 68 i1 _ 129 Tryz.underlying23 HJ.o.1 HJ.o.2.1 HJ.o.2.2.1 (by decide) (by decide) (Wri.mk a b).cells.toArray HX2.o rfl ?_
    refine hK.out _ _ (Stand.fr hL2 (Fr.alloc (Fr.refl (fun _ => False) _) _) (fun _ _ h => h)) (fun hL3 => ?_)
    clear hK K hL2
    have HNE : Jq7 (¬ wy1.heap.size = wd.heap.size) := jq7 (Nat.ne_of_gt (Bk.lt HE2.o))
    have HB3 : Jq7 (Fr0 wd (wy1.alloc (.cells (Wri.mk a b).cells.toArray 68))) := jq7 (Fr.then0 HB2.o (Fr.alloc (Fr.refl (fun _ => False) wy1) _))
    have HE3 : Jq7 (Bk (wy1.alloc (.cells (Wri.mk a b).cells.toArray 68)) wd.heap.size #[] 68) := jq7 (Fr.keep (Fr.alloc (Fr.refl (fun _ => False) wy1) _) HE2.o (fun h => h))
    have HN3 : Jq7 (Bk (wy1.alloc (.cells (Wri.mk a b).cells.toArray 68)) wy1.heap.size (Wri.mk a b).cells.toArray 68) := jq7 (Bk.new _ _)
    generalize (wy1.alloc (.cells (Wri.mk a b).cells.toArray 68)) = wy2 at *
    change wpAnyH _ _ _ _ _ 5 #[true, true, true, true, true, true, false, true, true, true, true, false, false, false, false] _ _
    refine rd1 6 rfl fun K hK => ?_
    simp only [zA, zB, zC]
    obtain ⟨g, cap, cur, wv, hr5, hg5, ho5, hf5⟩ := run_append_all (P := Tryz.prog) wy2 23 23 i1 _ 136 Tryz.underlying23 HJ.o.1 HJ.o.2.1 HJ.o.2.2.1 HJ.o.2.2.2 ZWC_cells (by decide) (wd.heap.size) HE3.o ca d.C.length cc d.C rfl (RdG.keep HRC0.o HB3.o) (wris_len HOK.o.c) (fun x _ => Wri.one x) (by omega) (by omega)
    have hwge : wd.heap.size ≤ wd.heap.size := HGE0.o
    have hhx : w.heap.size < wd.heap.size := HXL.o
    refine GApp.wp_append_run _ _ 23 rfl _ _ _ rfl rfl hr5 ?_
    refine hK.out _ _ (Stand.fr hL3 hf5 (fun r hr => by simp only [List.mem_cons, List.not_mem_nil, or_false] at hr;subst hr;show ¬ w.heap.size = wd.heap.size;omega)) (fun hL4 => ?_)
    clear hK K hL3
    have HB4 : Jq7 (Fr0 wd wv) := jq7 (Fr.newG HB3.o hf5 hwge)
    have HN4 : Jq7 (Bk wv wy1.heap.size (Wri.mk a b).cells.toArray 68) := jq7 (Fr.keep hf5 HN3.o HNE.o)
    have HO4 := jq7 ho5
    have HG4 := jq7 hg5
    clear hr5 hf5 ho5
    change wpAnyH _ _ _ _ _ 4 #[true, true, true, true, true, true, true, true, true, true, true, false, false, false, false] _ _
    refine rd1 11 rfl fun K hK => ?_
    simp only [zA, zB, zC]
    obtain ⟨g2, cap2, cur2, wz, hr6, hg6, ho6, hf6⟩ := GApp.run_append_own1 (P := Tryz.prog) wv 23 23 i1 _ 136 (wd.heap.size) Tryz.underlying23 HJ.o.1 HJ.o.2.1 HJ.o.2.2.1 HJ.o.2.2.2 ZWC_cells (by decide) g cap cur d.C.length d.C rfl HO4.o HG4.o (wris_len HOK.o.c) (wy1.heap.size) 1 ⟨a, b⟩ (Wri.leng HWOK.o) (Wri.one _) HN4.o (by omega) hC
    have hgge : wd.heap.size ≤ g := HG4.o
    refine GApp.wp_append_run _ _ 23 rfl _ _ _ rfl rfl hr6 ?_
    refine hK.out _ _ (Stand.fr hL4 hf6 (fun r hr => by simp only [List.mem_cons, List.not_mem_nil, or_false] at hr;subst hr;show ¬ w.heap.size = g;omega)) (fun hL5 => ?_)
    clear hK K hL4
    have HB5 : Jq7 (Fr0 wd wz) := jq7 (Fr.newG HB4.o hf6 (by omega))
    have HO5 := jq7 ho6
    have HG5 := jq7 hg6
    clear hr6 hf6 ho6 hg6
    refine tk0 (i := 12) (v := .pointer (some ⟨p, 0, none⟩)) rfl hL5 ?_
    refine tk0 (i := 13) (v := .pointer (some ⟨p, 1, none⟩)) rfl hL5 ?_
    simp only [Act.put,zA,zB,zC,zD,zE,zF]
    change wpAnyH _ _ _ _ _ 1 #[true, true, true, true, true, true, true, true, true, true, true, true, true, true, false] _ _
    refine rd1 14 rfl fun K hK => ?_
    simp only [zA, zB, zC]
    have hbp := HB5.o.keep HP0.o (fun h => h)
    have q1 : wz.cell? ⟨p, 1, none⟩ = some (.slice ca d.C.length cc) := (Bk.cell hbp 1).trans HC1.o
    have f1 := Bk.free hbp 1
    go_wp2_with fail
    refine hK.out _ _ (Stand.fr hL5 (Fr.set1 _ _ _ _) (fun r hr => by simp only [List.mem_cons, List.not_mem_nil, or_false] at hr;subst hr;exact hxp)) (fun hL6 => ?_)
    clear hK K hL5
    clear q1 f1 hbp
    change wpAnyH _ _ _ _ _ 0 #[true, true, true, true, true, true, true, true, true, true, true, true, true, true, true] _ _
    refine wpAnyH_done (by kernel_rfl) ?_ _
    refine NoPanic.normal ?_
    have HEND := jq7 hL6
    clear hL6
    go_wp2_with fail
    go_ret
    have hgp : g2 ≠ p := by have h2 := HG5.o;have h3 := Bk.lt HP0.o;omega
    have hbp := HB5.o.keep HP0.o (fun h => h)
    have hfs := Fr.set1 wz p 1 (.slice (some ⟨g2, 0, none⟩) (d.C.length + 1) cap2)
    have hv5 := DV.past (d := actD d) (HDV0.o.keep HB5.o) (actD_ok HOK.o) hfs hbp (dval_no _ _ _ _ _)
    have ho5 := OwnG.keep HO5.o hfs hgp
    refine ⟨rfl, ⟨⟨some ⟨sb, so, none⟩, sc, some ⟨g2, 0, none⟩, cap2, ?_, ?_⟩, (HPF0.o.then0 HB5.o).trans hfs⟩⟩
    ·have := Bk.set hbp 1 (.slice (some ⟨g2, 0, none⟩) (d.C.length + 1) cap2)
     simp only [dval, List.length_append, List.length_cons, List.length_nil]
     exact this
    ·exact ⟨hv5.rs, ho5.rd, hv5.sn, hv5.sm, ho5.room, ho5.max⟩
  ·simp only [zA, zB, zC]
   refine (if_pos (by kernel_rfl)).mpr ?_
   refine GApp.wp_buildSlice_one 23 _ rfl 68 i1 _ 129 Tryz.underlying23 HJ.o.1 HJ.o.2.1 HJ.o.2.2.1 (by decide) (by decide) (Wri.mk a b).cells.toArray HX2.o rfl ?_
   refine hK.out _ _ (Stand.fr hL1 (Fr.alloc (Fr.refl (fun _ => False) _) _) (fun _ _ h => h)) (fun hL2 => ?_)
   clear hK K hL1
   have HB2 : Jq7 (Fr0 wd (wd.alloc (.cells (Wri.mk a b).cells.toArray 68))) := jq7 (Fr.then0 HB0.o (Fr.alloc (Fr.refl (fun _ => False) wd) _))
   have HN2 : Jq7 (Bk (wd.alloc (.cells (Wri.mk a b).cells.toArray 68)) wd.heap.size (Wri.mk a b).cells.toArray 68) := jq7 (Bk.new _ _)
   generalize (wd.alloc (.cells (Wri.mk a b).cells.toArray 68)) = wy1 at *
   change wpAnyH _ _ _ _ _ 6 #[true, false, true, true, true, true, false, true, true, true, true, false, false, false, false] _ _
   refine rd1 1 rfl fun K hK => ?_
   simp only [zA, zB, zC]
   refine GApp.wp_buildSlice_nil 23 rfl 68 i1 Tryz.underlying23 HJ.o.1 ?_
   refine hK.out _ _ (Stand.fr hL2 (Fr.alloc (Fr.refl (fun _ => False) _) _) (fun _ _ h => h)) (fun hL3 => ?_)
   clear hK K hL2
   have HGE0 : Jq7 (wd.heap.size ≤ wy1.heap.size) := jq7 HB2.o.size
   have HNE : Jq7 (¬ wd.heap.size = wy1.heap.size) := jq7 (Nat.ne_of_lt (Bk.lt HN2.o))
   have HB3 : Jq7 (Fr0 wd (wy1.alloc (.cells #[] 68))) := jq7 (Fr.then0 HB2.o (Fr.alloc (Fr.refl (fun _ => False) wy1) _))
   have HN3 : Jq7 (Bk (wy1.alloc (.cells #[] 68)) wd.heap.size (Wri.mk a b).cells.toArray 68) := jq7 (Fr.keep (Fr.alloc (Fr.refl (fun _ => False) wy1) _) HN2.o (fun h => h))
   have HE3 : Jq7 (Bk (wy1.alloc (.cells #[] 68)) wy1.heap.size #[] 68) := jq7 (Bk.new _ _)
   generalize (wy1.alloc (.cells #[] 68)) = wy2 at *
   change wpAnyH _ _ _ _ _ 5 #[true, true, true, true, true, true, false, true, true, true, true, false, false, false, false] _ _
   refine rd1 6 rfl fun K hK => ?_
   simp only [zA, zB, zC]
   obtain ⟨g, cap, cur, wv, hr5, hg5, ho5, hf5⟩ := run_append_all (P := Tryz.prog) wy2 23 23 i1 _ 136 Tryz.underlying23 HJ.o.1 HJ.o.2.1 HJ.o.2.2.1 HJ.o.2.2.2 ZWC_cells (by decide) (wy1.heap.size) HE3.o ca d.C.length cc d.C rfl (RdG.keep HRC0.o HB3.o) (wris_len HOK.o.c) (fun x _ => Wri.one x) (by omega) (by omega)
   have hwge : wd.heap.size ≤ wy1.heap.size := HGE0.o
   have hhx : w.heap.size < wd.heap.size := HXL.o
   refine GApp.wp_append_run _ _ 23 rfl _ _ _ rfl rfl hr5 ?_
   refine hK.out _ _ (Stand.fr hL3 hf5 (fun r hr => by simp only [List.mem_cons, List.not_mem_nil, or_false] at hr;subst hr;show ¬ w.heap.size = wy1.heap.size;omega)) (fun hL4 => ?_)
   clear hK K hL3
   have HB4 : Jq7 (Fr0 wd wv) := jq7 (Fr.newG HB3.o hf5 hwge)
   have HN4 : Jq7 (Bk wv wd.heap.size (Wri.mk a b).cells.toArray 68) := jq7 (Fr.keep hf5 HN3.o HNE.o)
   have HO4 := jq7 ho5
   have HG4 := jq7 hg5
   clear hr5 hf5 ho5
   change wpAnyH _ _ _ _ _ 4 #[true, true, true, true, true, true, true, true, true, true, true, false, false, false, false] _ _
   refine rd1 11 rfl fun K hK => ?_
   simp only [zA, zB, zC]
   obtain ⟨g2, cap2, cur2, wz, hr6, hg6, ho6, hf6⟩ := GApp.run_append_own1 (P := Tryz.prog) wv 23 23 i1 _ 136 (wy1.heap.size) Tryz.underlying23 HJ.o.1 HJ.o.2.1 HJ.o.2.2.1 HJ.o.2.2.2 ZWC_cells (by decide) g cap cur d.C.length d.C rfl HO4.o HG4.o (wris_len HOK.o.c) (wd.heap.size) 1 ⟨a, b⟩ (Wri.leng HWOK.o) (Wri.one _) HN4.o (by omega) hC
   have hgge : wy1.heap.size ≤ g := HG4.o
   refine GApp.wp_append_run _ _ 23 rfl _ _ _ rfl rfl hr6 ?_
   refine hK.out _ _ (Stand.fr hL4 hf6 (fun r hr => by simp only [List.mem_cons, List.not_mem_nil, or_false] at hr;subst hr;show ¬ w.heap.size = g;omega)) (fun hL5 => ?_)
   clear hK K hL4
   have HB5 : Jq7 (Fr0 wd wz) := jq7 (Fr.newG HB4.o hf6 (by omega))
   have HO5 := jq7 ho6
   have HG5 := jq7 hg6
   clear hr6 hf6 ho6 hg6
   refine tk0 (i := 12) (v := .pointer (some ⟨p, 0, none⟩)) rfl hL5 ?_
   refine tk0 (i := 13) (v := .pointer (some ⟨p, 1, none⟩)) rfl hL5 ?_
   simp only [Act.put,zA,zB,zC,zD,zE,zF]
   change wpAnyH _ _ _ _ _ 1 #[true, true, true, true, true, true, true, true, true, true, true, true, true, true, false] _ _
   refine rd1 14 rfl fun K hK => ?_
   simp only [zA, zB, zC]
   have hbp := HB5.o.keep HP0.o (fun h => h)
   have q1 : wz.cell? ⟨p, 1, none⟩ = some (.slice ca d.C.length cc) := (Bk.cell hbp 1).trans HC1.o
   have f1 := Bk.free hbp 1
   go_wp2_with fail
   refine hK.out _ _ (Stand.fr hL5 (Fr.set1 _ _ _ _) (fun r hr => by simp only [List.mem_cons, List.not_mem_nil, or_false] at hr;subst hr;exact hxp)) (fun hL6 => ?_)
   clear hK K hL5
   clear q1 f1 hbp
   change wpAnyH _ _ _ _ _ 0 #[true, true, true, true, true, true, true, true, true, true, true, true, true, true, true] _ _
   refine wpAnyH_done (by kernel_rfl) ?_ _
   refine NoPanic.normal ?_
   have HEND := jq7 hL6
   clear hL6
   go_wp2_with fail
   go_ret
   have hgp : g2 ≠ p := by have h2 := HG5.o;have h3 := Bk.lt HP0.o;omega
   have hbp := HB5.o.keep HP0.o (fun h => h)
   have hfs := Fr.set1 wz p 1 (.slice (some ⟨g2, 0, none⟩) (d.C.length + 1) cap2)
   have hv5 := DV.past (d := actD d) (HDV0.o.keep HB5.o) (actD_ok HOK.o) hfs hbp (dval_no _ _ _ _ _)
   have ho5 := OwnG.keep HO5.o hfs hgp
   refine ⟨rfl, ⟨⟨some ⟨sb, so, none⟩, sc, some ⟨g2, 0, none⟩, cap2, ?_, ?_⟩, (HPF0.o.then0 HB5.o).trans hfs⟩⟩
   ·have := Bk.set hbp 1 (.slice (some ⟨g2, 0, none⟩) (d.C.length + 1) cap2)
    simp only [dval, List.length_append, List.length_cons, List.length_nil]
    exact this
   ·exact ⟨hv5.rs, ho5.rd, hv5.sn, hv5.sm, ho5.room, ho5.max⟩
 ·simp only [zA, zB, zC]
  refine (if_pos (by kernel_rfl)).mpr ?_
  refine GApp.wp_buildSlice_one 23 _ rfl 68 i1 _ 129 Tryz.underlying23 HJ.o.1 HJ.o.2.1 HJ.o.2.2.1 (by decide) (by decide) (Wri.mk a b).cells.toArray HX2.o rfl ?_
  refine hK.out _ _ (Stand.fr hL0 (Fr.alloc (Fr.refl (fun _ => False) _) _) (fun _ _ h => h)) (fun hL1 => ?_)
  clear hK K hL0
  have HB1 : Jq7 (Fr0 wd (wd.alloc (.cells (Wri.mk a b).cells.toArray 68))) := jq7 (Fr.then0 HB0.o (Fr.alloc (Fr.refl (fun _ => False) wd) _))
  have HN1 : Jq7 (Bk (wd.alloc (.cells (Wri.mk a b).cells.toArray 68)) wd.heap.size (Wri.mk a b).cells.toArray 68) := jq7 (Bk.new _ _)
  generalize (wd.alloc (.cells (Wri.mk a b).cells.toArray 68)) = wy0 at *
  change wpAnyH _ _ _ _ _ 7 #[true, false, true, true, true, false, false, true, true, true, true, false, false, false, false] _ _
  refine wpAnyH_ready (rs := [1, 5]) (by kernel_rfl) (by simp) ?_
  refine AllReadyH.cons rfl (fun K hK => ?_) (AllReadyH.cons rfl (fun K hK => ?_) (AllReadyH.nil))
  ·simp only [zA, zB, zC]
   refine (if_pos (by kernel_rfl)).mpr ?_
   refine GApp.wp_buildSlice_nil 23 rfl 68 i1 Tryz.underlying23 HJ.o.1 ?_
   refine hK.out _ _ (Stand.fr hL1 (Fr.alloc (Fr.refl (fun _ => False) _) _) (fun _ _ h => h)) (fun hL2 => ?_)
   clear hK K hL1
   have HGE0 : Jq7 (wd.heap.size ≤ wy0.heap.size) := jq7 HB1.o.size
   have HNE : Jq7 (¬ wd.heap.size = wy0.heap.size) := jq7 (Nat.ne_of_lt (Bk.lt HN1.o))
   have HB2 : Jq7 (Fr0 wd (wy0.alloc (.cells #[] 68))) := jq7 (Fr.then0 HB1.o (Fr.alloc (Fr.refl (fun _ => False) wy0) _))
   have HN2 : Jq7 (Bk (wy0.alloc (.cells #[] 68)) wd.heap.size (Wri.mk a b).cells.toArray 68) := jq7 (Fr.keep (Fr.alloc (Fr.refl (fun _ => False) wy0) _) HN1.o (fun h => h))
   have HE2 : Jq7 (Bk (wy0.alloc (.cells #[] 68)) wy0.heap.size #[] 68) := jq7 (Bk.new _ _)
   generalize (wy0.alloc (.cells #[] 68)) = wy1 at *
   change wpAnyH _ _ _ _ _ 6 #[true, true, true, true, true, false, false, true, true, true, true, false, false, false, false] _ _
   refine rd1 5 rfl fun K hK => ?_
   simp only [zA, zB, zC]
   have hbp := HB2.o.keep HP0.o (fun h => h)
   have q1 : wy1.cell? ⟨p, 1, none⟩ = some (.slice ca d.C.length cc) := (Bk.cell hbp 1).trans HC1.o
   have hlp : p < wy1.heap.size := Bk.lt hbp
   go_wp2_with fail
   refine hK.out _ _ (hL2) (fun hL3 => ?_)
   clear hK K hL2
   clear q1 hlp hbp
   change wpAnyH _ _ _ _ _ 5 #[true, true, true, true, true, true, false, true, true, true, true, false, false, false, false] _ _
   refine rd1 6 rfl fun K hK => ?_
   simp only [zA, zB, zC]
   obtain ⟨g, cap, cur, wv, hr5, hg5, ho5, hf5⟩ := run_append_all (P := Tryz.prog) wy1 23 23 i1 _ 136 Tryz.underlying23 HJ.o.1 HJ.o.2.1 HJ.o.2.2.1 HJ.o.2.2.2 ZWC_cells (by decide) (wy0.heap.size) HE2.o ca d.C.length cc d.C rfl (RdG.keep HRC0.o HB2.o) (wris_len HOK.o.c) (fun x _ => Wri.one x) (by omega) (by omega)
   have hwge : wd.heap.size ≤ wy0.heap.size := HGE0.o
   have hhx : w.heap.size < wd.heap.size := HXL.o
   refine GApp.wp_append_run _ _ 23 rfl _ _ _ rfl rfl hr5 ?_
   refine hK.out _ _ (Stand.fr hL3 hf5 (fun r hr => by simp only [List.mem_cons, List.not_mem_nil, or_false] at hr;subst hr;show ¬ w.heap.size = wy0.heap.size;omega)) (fun hL4 => ?_)
   clear hK K hL3
   have HB4 : Jq7 (Fr0 wd wv) := jq7 (Fr.newG HB2.o hf5 hwge)
   have HN4 : Jq7 (Bk wv wd.heap.size (Wri.mk a b).cells.toArray 68) := jq7 (Fr.keep hf5 HN2.o HNE.o)
   have HO4 := jq7 ho5
   have HG4 := jq7 hg5
   clear hr5 hf5 ho5
   change wpAnyH _ _ _ _ _ 4 #[true, true, true, true, true, true, true, true, true, true, true, false, false, false, false] _ _
   refine rd1 11 rfl fun K hK => ?_
   simp only [zA, zB, zC]
   obtain ⟨g2, cap2, cur2, wz, hr6, hg6, ho6, hf6⟩ := GApp.run_append_own1 (P := Tryz.prog) wv 23 23 i1 _ 136 (wy0.heap.size) Tryz.underlying23 HJ.o.1 HJ.o.2.1 HJ.o.2.2.1 HJ.o.2.2.2 ZWC_cells (by decide) g cap cur d.C.length d.C rfl HO4.o HG4.o (wris_len HOK.o.c) (wd.heap.size) 1 ⟨a, b⟩ (Wri.leng HWOK.o) (Wri.one _) HN4.o (by omega) hC
   have hgge : wy0.heap.size ≤ g := HG4.o
   refine GApp.wp_append_run _ _ 23 rfl _ _ _ rfl rfl hr6 ?_
   refine hK.out _ _ (Stand.fr hL4 hf6 (fun r hr => by simp only [List.mem_cons, List.not_mem_nil, or_false] at hr;subst hr;show ¬ w.heap.size = g;omega)) (fun hL5 => ?_)
   clear hK K hL4
   have HB5 : Jq7 (Fr0 wd wz) := jq7 (Fr.newG HB4.o hf6 (by omega))
   have HO5 := jq7 ho6
   have HG5 := jq7 hg6
   clear hr6 hf6 ho6 hg6
   refine tk0 (i := 12) (v := .pointer (some ⟨p, 0, none⟩)) rfl hL5 ?_
   refine tk0 (i := 13) (v := .pointer (some ⟨p, 1, none⟩)) rfl hL5 ?_
   simp only [Act.put,zA,zB,zC,zD,zE,zF]
   change wpAnyH _ _ _ _ _ 1 #[true, true, true, true, true, true, true, true, true, true, true, true, true, true, false] _ _
   refine rd1 14 rfl fun K hK => ?_
   simp only [zA, zB, zC]
   have hbp := HB5.o.keep HP0.o (fun h => h)
   have q1 : wz.cell? ⟨p, 1, none⟩ = some (.slice ca d.C.length cc) := (Bk.cell hbp 1).trans HC1.o
   have f1 := Bk.free hbp 1
   go_wp2_with fail
   refine hK.out _ _ (Stand.fr hL5 (Fr.set1 _ _ _ _) (fun r hr => by simp only [List.mem_cons, List.not_mem_nil, or_false] at hr;subst hr;exact hxp)) (fun hL6 => ?_)
   clear hK K hL5
   clear q1 f1 hbp
   change wpAnyH _ _ _ _ _ 0 #[true, true, true, true, true, true, true, true, true, true, true, true, true, true, true] _ _
   refine wpAnyH_done (by kernel_rfl) ?_ _
   refine NoPanic.normal ?_
   have HEND := jq7 hL6
   clear hL6
   go_wp2_with fail
   go_ret
   have hgp : g2 ≠ p := by have h2 := HG5.o;have h3 := Bk.lt HP0.o;omega
   have hbp := HB5.o.keep HP0.o (fun h => h)
   have hfs := Fr.set1 wz p 1 (.slice (some ⟨g2, 0, none⟩) (d.C.length + 1) cap2)
   have hv5 := DV.past (d := actD d) (HDV0.o.keep HB5.o) (actD_ok HOK.o) hfs hbp (dval_no _ _ _ _ _)
   have ho5 := OwnG.keep HO5.o hfs hgp
   refine ⟨rfl, ⟨⟨some ⟨sb, so, none⟩, sc, some ⟨g2, 0, none⟩, cap2, ?_, ?_⟩, (HPF0.o.then0 HB5.o).trans hfs⟩⟩
   ·have := Bk.set hbp 1 (.slice (some ⟨g2, 0, none⟩) (d.C.length + 1) cap2)
    simp only [dval, List.length_append, List.length_cons, List.length_nil]
    exact this
   ·exact ⟨hv5.rs, ho5.rd, hv5.sn, hv5.sm, ho5.room, ho5.max⟩
  ·simp only [zA, zB, zC]
   refine (if_pos (by kernel_rfl)).mpr ?_
   have hbp := HB1.o.keep HP0.o (fun h => h)
   have q1 : wy0.cell? ⟨p, 1, none⟩ = some (.slice ca d.C.length cc) := (Bk.cell hbp 1).trans HC1.o
   have hlp : p < wy0.heap.size := Bk.lt hbp
   go_wp2_with fail
   refine hK.out _ _ (hL1) (fun hL2 => ?_)
   clear hK K hL1
   clear q1 hlp hbp
   change wpAnyH _ _ _ _ _ 6 #[true, false, true, true, true, true, false, true, true, true, true, false, false, false, false] _ _
   refine rd1 1 rfl fun K hK => ?_
   simp only [zA, zB, zC]
   refine GApp.wp_buildSlice_nil 23 rfl 68 i1 Tryz.underlying23 HJ.o.1 ?_
   refine hK.out _ _ (Stand.fr hL2 (Fr.alloc (Fr.refl (fun _ => False) _) _) (fun _ _ h => h)) (fun hL3 => ?_)
   clear hK K hL2
   have HGE0 : Jq7 (wd.heap.size ≤ wy0.heap.size) := jq7 HB1.o.size
   have HNE : Jq7 (¬ wd.heap.size = wy0.heap.size) := jq7 (Nat.ne_of_lt (Bk.lt HN1.o))
   have HB3 : Jq7 (Fr0 wd (wy0.alloc (.cells #[] 68))) := jq7 (Fr.then0 HB1.o (Fr.alloc (Fr.refl (fun _ => False) wy0) _))
   have HN3 : Jq7 (Bk (wy0.alloc (.cells #[] 68)) wd.heap.size (Wri.mk a b).cells.toArray 68) := jq7 (Fr.keep (Fr.alloc (Fr.refl (fun _ => False) wy0) _) HN1.o (fun h => h))
   have HE3 : Jq7 (Bk (wy0.alloc (.cells #[] 68)) wy0.heap.size #[] 68) := jq7 (Bk.new _ _)
   generalize (wy0.alloc (.cells #[] 68)) = wy2 at *
   change wpAnyH _ _ _ _ _ 5 #[true, true, true, true, true, true, false, true, true, true, true, false, false, false, false] _ _
   refine rd1 6 rfl fun K hK => ?_
   simp only [zA, zB, zC]
   obtain ⟨g, cap, cur, wv, hr5, hg5, ho5, hf5⟩ := run_append_all (P := Tryz.prog) wy2 23 23 i1 _ 136 Tryz.underlying23 HJ.o.1 HJ.o.2.1 HJ.o.2.2.1 HJ.o.2.2.2 ZWC_cells (by decide) (wy0.heap.size) HE3.o ca d.C.length cc d.C rfl (RdG.keep HRC0.o HB3.o) (wris_len HOK.o.c) (fun x _ => Wri.one x) (by omega) (by omega)
   have hwge : wd.heap.size ≤ wy0.heap.size := HGE0.o
   have hhx : w.heap.size < wd.heap.size := HXL.o
   refine GApp.wp_append_run _ _ 23 rfl _ _ _ rfl rfl hr5 ?_
   refine hK.out _ _ (Stand.fr hL3 hf5 (fun r hr => by simp only [List.mem_cons, List.not_mem_nil, or_false] at hr;subst hr;show ¬ w.heap.size = wy0.heap.size;omega)) (fun hL4 => ?_)
   clear hK K hL3
   have HB4 : Jq7 (Fr0 wd wv) := jq7 (Fr.newG HB3.o hf5 hwge)
   have HN4 : Jq7 (Bk wv wd.heap.size (Wri.mk a b).cells.toArray 68) := jq7 (Fr.keep hf5 HN3.o HNE.o)
   have HO4 := jq7 ho5
   have HG4 := jq7 hg5
   clear hr5 hf5 ho5
   change wpAnyH _ _ _ _ _ 4 #[true, true, true, true, true, true, true, true, true, true, true, false, false, false, false] _ _
   refine rd1 11 rfl fun K hK => ?_
   simp only [zA, zB, zC]
   obtain ⟨g2, cap2, cur2, wz, hr6, hg6, ho6, hf6⟩ := GApp.run_append_own1 (P := Tryz.prog) wv 23 23 i1 _ 136 (wy0.heap.size) Tryz.underlying23 HJ.o.1 HJ.o.2.1 HJ.o.2.2.1 HJ.o.2.2.2 ZWC_cells (by decide) g cap cur d.C.length d.C rfl HO4.o HG4.o (wris_len HOK.o.c) (wd.heap.size) 1 ⟨a, b⟩ (Wri.leng HWOK.o) (Wri.one _) HN4.o (by omega) hC
   have hgge : wy0.heap.size ≤ g := HG4.o
   refine GApp.wp_append_run _ _ 23 rfl _ _ _ rfl rfl hr6 ?_
   refine hK.out _ _ (Stand.fr hL4 hf6 (fun r hr => by simp only [List.mem_cons, List.not_mem_nil, or_false] at hr;subst hr;show ¬ w.heap.size = g;omega)) (fun hL5 => ?_)
   clear hK K hL4
   have HB5 : Jq7 (Fr0 wd wz) := jq7 (Fr.newG HB4.o hf6 (by omega))
   have HO5 := jq7 ho6
   have HG5 := jq7 hg6
   clear hr6 hf6 ho6 hg6
   refine tk0 (i := 12) (v := .pointer (some ⟨p, 0, none⟩)) rfl hL5 ?_
   refine tk0 (i := 13) (v := .pointer (some ⟨p, 1, none⟩)) rfl hL5 ?_
   simp only [Act.put,zA,zB,zC,zD,zE,zF]
   change wpAnyH _ _ _ _ _ 1 #[true, true, true, true, true, true, true, true, true, true, true, true, true, true, false] _ _
   refine rd1 14 rfl fun K hK => ?_
   simp only [zA, zB, zC]
   have hbp := HB5.o.keep HP0.o (fun h => h)
   have q1 : wz.cell? ⟨p, 1, none⟩ = some (.slice ca d.C.length cc) := (Bk.cell hbp 1).trans HC1.o
   have f1 := Bk.free hbp 1
   go_wp2_with fail
   refine hK.out _ _ (Stand.fr hL5 (Fr.set1 _ _ _ _) (fun r hr => by simp only [List.mem_cons, List.not_mem_nil, or_false] at hr;subst hr;exact hxp)) (fun hL6 => ?_)
   clear hK K hL5
   clear q1 f1 hbp
   change wpAnyH _ _ _ _ _ 0 #[true, true, true, true, true, true, true, true, true, true, true, true, true, true, true] _ _
   refine wpAnyH_done (by kernel_rfl) ?_ _
   refine NoPanic.normal ?_
   have HEND := jq7 hL6
   clear hL6
   go_wp2_with fail
   go_ret
   have hgp : g2 ≠ p := by have h2 := HG5.o;have h3 := Bk.lt HP0.o;omega
   have hbp := HB5.o.keep HP0.o (fun h => h)
   have hfs := Fr.set1 wz p 1 (.slice (some ⟨g2, 0, none⟩) (d.C.length + 1) cap2)
   have hv5 := DV.past (d := actD d) (HDV0.o.keep HB5.o) (actD_ok HOK.o) hfs hbp (dval_no _ _ _ _ _)
   have ho5 := OwnG.keep HO5.o hfs hgp
   refine ⟨rfl, ⟨⟨some ⟨sb, so, none⟩, sc, some ⟨g2, 0, none⟩, cap2, ?_, ?_⟩, (HPF0.o.then0 HB5.o).trans hfs⟩⟩
   ·have := Bk.set hbp 1 (.slice (some ⟨g2, 0, none⟩) (d.C.length + 1) cap2)
    simp only [dval, List.length_append, List.length_cons, List.length_nil]
    exact this
   ·exact ⟨hv5.rs, ho5.rd, hv5.sn, hv5.sm, ho5.room, ho5.max⟩

theorem rwrite_calls (p : Nat) (a : Int) (b : List UInt8) (d : Dk) (sa : Option Addr) (sc : Nat) (ca : Option Addr) (cc : Nat) (w : World) (hok : d.ok) (hv : DAt w p d sa sc ca cc) (hb : b.length = 128) (hC : (d.C.length + 1) * 136 ≤ 140737488355328) (hwa : (Lit.int .i64 a).wf = true) : Calls Tryz.prog 76 #[.pointer (some ⟨p, 0, none⟩), .int .i64 a, .agg (b.map B).toArray] w fun e w' => e = .returned (.int .i64 (writeE d a)) ∧ Now w w' p (writeD d a b) := by
 unfold writeE writeD
 cases hr : rightB d a with
 | false =>
  rw [if_pos rfl, if_pos rfl]
  cases hf : formedB d with
  | false => exact rwrite_unf p a b d sa sc ca cc w hok hv hb hf
  | true =>
   rw [rightB, hf, Bool.and_true] at hr
   exact rwrite_out p a b d sa sc ca cc w hok hv hb hf hr
 | true =>
  simp only [if_neg (show ¬ (true = false) by simp)]
  rcases actE_cases d with ha | ha
  ·rw [if_pos ha, if_pos ha];exact rwrite_down p a b d sa sc ca cc w hok hv hb hr ha
  ·have h3 : ¬ actE d = 3 := by omega
   rw [if_neg h3, if_neg h3]
   cases hn : (secAt d a).nw with
   | true => rw [if_pos rfl, if_pos rfl];exact rwrite_nw p a b d sa sc ca cc w hok hv hb hr ha hn
   | false => rw [if_neg (by simp), if_neg (by simp)];exact rwrite_yes p a b d sa sc ca cc w hok hv hb hC hwa hr ha hn

end Go.Proofs.YtmkmpfnadcmcoaaGreatDoor.DiskRWrite
