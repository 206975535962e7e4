/- The theorems that the claim uses, text behind text (part 21). -/
import Derived.Test.YtmkmpfnadcmcoaaGreatDoorYat
set_option maxRecDepth 100000
set_option maxHeartbeats 8000000
set_option linter.unusedVariables false
set_option linter.unusedSimpArgs false
namespace Go.Proofs.YtmkmpfnadcmcoaaGreatDoor.RmFirst
open Go Go.RowKit K EqKit ArrKit HeldKit GKit GRow DiskKit RmKit MapKit RmRight RmRRight RmTab RmPut RmAsk RmSame DiskRRead RmRead RmReads DiskAct RmSpare RmKeep
theorem RdS_apart {w : World} {a : Addr} {l : List Sec} {p t : Nat} {cs : Array Value} (h : RdS w (some a) l) (hl : l ≠ []) (hok : ∀ x ∈ l, x.ok) (hb : Bk w p cs t) (hn : ∀ (j : Nat) (x : Value), cs[j]? = some x → ∀ v : UInt8, x ≠ B v) : a.block ≠ p := by
 rintro rfl
 have h0 : 0 < l.length := List.length_pos_iff.2 hl
 obtain ⟨b, o, e0, -, hr⟩ := RdG.form h h0 Sec.pos
 obtain rfl := Option.some.inj e0
 have hk := hok _ (List.getElem_mem h0)
 have h1 : l[0].data.length = 128 := hk
 have e := hr 0 h0 0 (B (l[0].data[0]'(by omega))) (by rw [Sec.data_at hk (by omega), List.getElem?_map, List.getElem?_eq_getElem (by omega)];rfl)
 rw [Bk.cell hb] at e
 exact hn _ _ e _ rfl
theorem RdC_apart {w : World} {a : Addr} {l : List Wri} {p t : Nat} {cs : Array Value} (h : RdC w (some a) l) (hl : l ≠ []) (hok : ∀ x ∈ l, x.ok) (hb : Bk w p cs t) (hn : ∀ (j : Nat) (x : Value), cs[j]? = some x → ∀ v : UInt8, x ≠ B v) : a.block ≠ p := by
 rintro rfl
 have h0 : 0 < l.length := List.length_pos_iff.2 hl
 obtain ⟨b, o, e0, -, hr⟩ := RdG.form h h0 Wri.ps
 obtain rfl := Option.some.inj e0
 have h1 := (hok _ (List.getElem_mem h0)).len
 have e := hr 0 h0 1 (B (l[0].data[0]'(by omega))) (by rw [Wri.data_at, List.getElem?_map, List.getElem?_eq_getElem (by omega)];rfl)
 rw [Bk.cell hb] at e
 exact hn _ _ e _ rfl
theorem DV_past {w w1 : World} {d : Dk} {sa : Option Addr} {sc : Nat} {ca : Option Addr} {cc : Nat} (h : DV w d sa sc ca cc) (hok : d.ok) {p t : Nat} {cs : Array Value} (f : Fr (fun i => i = p) w w1) (hb : Bk w p cs t) (hn : ∀ (j : Nat) (x : Value), cs[j]? = some x → ∀ v : UInt8, x ≠ B v) : DV w1 d sa sc ca cc :=
 ⟨RdG.later h.rs f (fun a e hl => by subst e;exact RdS_apart h.rs hl hok.s hb hn), RdG.later h.rc f (fun a e hl => by subst e;exact RdC_apart h.rc hl hok.c hb hn), h.sn, h.sm, h.cn, h.cm⟩
theorem DAt_past {w w1 : World} {q : Nat} {d : Dk} {sa : Option Addr} {sc : Nat} {ca : Option Addr} {cc : Nat} (h : DAt w q d sa sc ca cc) (hok : d.ok) {p t : Nat} {cs : Array Value} (f : Fr (fun i => i = p) w w1) (hb : Bk w p cs t) (hn : ∀ (j : Nat) (x : Value), cs[j]? = some x → ∀ v : UInt8, x ≠ B v) (hne : q ≠ p) : DAt w1 q d sa sc ca cc :=
 ⟨f.keep h.blk hne, DV_past h.v hok f hb hn⟩
theorem rc_no (g : Int) (a : Option Addr) (n c : Nat) : ∀ (j : Nat) (x : Value), (RC g (.slice a n c))[j]? = some x → ∀ v : UInt8, x ≠ B v := by
 intro j x hj v
 rcases (show j = 0 ∨ j = 1 ∨ 2 ≤ j by omega) with rfl | rfl | h2
 ·have e : Value.int .i64 g = x := Option.some.inj hj
  rw [← e];simp [B]
 ·have e : Value.slice a n c = x := Option.some.inj hj
  rw [← e];simp [B]
 ·rw [Array.getElem?_eq_none (show (RC g (.slice a n c)).size ≤ j from h2)] at hj;cases hj
theorem rv_nil (W : World) (g : Int) : RV W (⟨g, []⟩ : Rm) none 0 := ⟨RdG.nil _ _, Nat.le_refl _, by omega⟩
theorem built_rc (x : Int) : Tryz.prog.built 28 [(0, .int .i64 x), (1, (.slice none 0 0))] = some (RC x (.slice none 0 0)) := by kernel_rfl
theorem built_pr (x y : Int) : Tryz.prog.built 70 [(0, .int .i64 x), (1, .int .i64 y)] = some (PR (x, y)).toArray := by kernel_rfl
theorem clone_nil (w : World) : Calls Tryz.prog 61 #[(.slice none 0 0)] w fun e w' => e = .returned (.slice none 0 0) ∧ w' = w := by
 have hes := @Lib.run_eql_slice_nil Tryz.prog
 go_enter Tryz.func61, Tryz.ntmps61
 go_wp2
 go_ret
 exact ⟨rfl, rfl⟩

theorem first_calls (p r : Nat) (d : Dk) (sa : Option Addr) (sc : Nat) (ca : Option Addr) (cc : Nat) (g n to : Int) (b : List UInt8) (d2 d4 : Dk) (w : World) (hok : d.ok) (hv : DAt w p d sa sc ca cc) (hb : b.length = 128) (hR : Bk w r (RC g (.slice none 0 0)) 28) (hrp : r ≠ p) (hsh : Sh w) (hn : (Lit.int .i64 n).wf = true) (hto : (Lit.int .i64 to).wf = true) (hg : 0 ≤ g ∧ g ≤ 1000) (hC : d.C.length ≤ 900) (hS : half (d.S.length : Int) ≠ 0)
  (h1 : askedB d (⟨g, []⟩ : Rm) n = true) (h2 : writeE d n = 2) (h3 : spareR (⟨g, []⟩ : Rm) b 20 (2 * half (d.S.length : Int)) (writeD d n b) = (to, 0, d2)) (h3o : d2.ok) (h3s : d2.S.length = d.S.length) (h4 : flushE d2 = 0) (h4o : (flushD d2).ok) (h4s : (flushD d2).S.length = d.S.length) (h4c : (flushD d2).C.length ≤ 2000) (h5 : keepX (flushD d2) (⟨g + 1, [(n, to)]⟩ : Rm) = (0, d4)) (h5o : d4.ok) :
  Calls Tryz.prog 31 #[.pointer (some ⟨p, 0, none⟩), .pointer (some ⟨r, 0, none⟩), .int .i64 n, .agg (b.map B).toArray] w fun e w' => e = .returned (.int .i64 0) ∧ DIn w' p d4 ∧ (∃ g' cap cur, Bk w' r (rval (⟨g + 1, [(n, to)]⟩ : Rm) (some ⟨g', 0, none⟩) cap) 28 ∧ OwnP w' g' cap cur [(n, to)]) ∧ Fr (fun i => i = p ∨ i = r) w w' := by
 have HV := jq7 hv
 have HR := jq7 hR
 have hpw : p < w.heap.size := Bk.lt hv.blk
 have hrw : r < w.heap.size := Bk.lt hR
 have HB1 : Jq7 (Bk (w.alloc (.cells (b.map B).toArray 36)) w.heap.size (b.map B).toArray 36) := jq7 (Bk.new w _)
 have HF1 : Jq7 (Fr0 w (w.alloc (.cells (b.map B).toArray 36))) := jq7 (Fr.alloc (Fr.refl _ _) _)
 have HR1 := jq7 (HF1.o.keep hR (fun h => h))
 have HM : Jq7 (∀ g : Int, ((⟨g, []⟩ : Rm)).ok ↔ (Lit.int .i64 g).wf = true) := jq7 (fun g => ⟨fun h => h.g, fun h => ⟨h, fun x hx => by cases hx⟩⟩)
 have hgw : (Lit.int .i64 g).wf = true := by simp [Lit.wf, IntKind.min, IntKind.max, IntKind.signed, IntKind.bits];omega
 have hg1w : (Lit.int .i64 (g + 1)).wf = true := by simp [Lit.wf, IntKind.min, IntKind.max, IntKind.signed, IntKind.bits];omega
 have HAS : Jq7 (∀ W, Fr0 w W → Calls Tryz.prog 58 #[.pointer (some ⟨p, 0, none⟩), .agg (RC g (.slice none 0 0)), .int .i64 n] W fun e w' => e = .returned (.bool true) ∧ Fr0 W w') := jq7 (fun W f => by have := asked_calls p d sa sc ca cc (⟨g, []⟩ : Rm) none 0 n W hok (hv.keep f) ((HM.o g).2 hgw) (rv_nil W g) hn;rwa [h1] at this)
 have HAT : Jq7 (∀ W, Calls Tryz.prog 59 #[.agg (RC g (.slice none 0 0)), .int .i64 n] W fun e w' => e = .returned (.int .i64 n) ∧ Fr0 W w') := jq7 (fun W => at_calls (⟨g, []⟩ : Rm) none 0 n W (rv_nil W g) (by simp))
 have HPC : Jq7 (∀ W, Calls Tryz.prog 62 #[.agg (RC g (.slice none 0 0)), .int .i64 n] W fun e w' => e = .returned (.int .i64 (-1)) ∧ Fr0 W w') := jq7 (fun W => place_calls (⟨g, []⟩ : Rm) none 0 n W (rv_nil W g) (by simp))
 have HWR : Jq7 (∀ W, DAt W p d sa sc ca cc → Calls Tryz.prog 55 #[.pointer (some ⟨p, 0, none⟩), .int .i64 n, .agg (b.map B).toArray] W fun e w' => e = .returned (.int .i64 2) ∧ Now W w' p (writeD d n b)) := jq7 (fun W h => by have := DiskWrite.write_calls p n b d sa sc ca cc W hok h hb (by omega) hn;rwa [h2] at this)
 have HO1 := jq7 (writeD_ok hok hb hn)
 have HSR : Jq7 (∀ W s1 n1 c1 k1, DAt W p (writeD d n b) s1 n1 c1 k1 → Calls Tryz.prog 60 #[.pointer (some ⟨p, 0, none⟩), .agg (RC g (.slice none 0 0)), .agg (b.map B).toArray] W fun e w' => e = .returned (.tuple #[.int .i64 to, .int .i64 0]) ∧ Now W w' p d2) := jq7 (fun W s1 n1 c1 k1 h => by
  have := spare_calls p (writeD d n b) s1 n1 c1 k1 (⟨g, []⟩ : Rm) none 0 b W HO1.o h ((HM.o g).2 hgw) (rv_nil W g) (by simp) hb (Nat.le_trans (writeD_C d n b) (by omega)) (by rw [writeD_S];exact hS)
  rw [writeD_S, h3] at this
  exact this)
 have HFL : Jq7 (∀ W s1 n1 c1 k1, DAt W p d2 s1 n1 c1 k1 → Calls Tryz.prog 18 #[.pointer (some ⟨p, 0, none⟩)] W fun e w' => e = .returned (.int .i64 0) ∧ Now W w' p (flushD d2)) := jq7 (fun W s1 n1 c1 k1 h => by have := DiskFlush.flush_calls p d2 s1 n1 c1 k1 W h3o h;rwa [h4] at this)
 have HMO : Jq7 (((⟨g + 1, [(n, to)]⟩ : Rm)).ok) := jq7 ⟨hg1w, fun x hx => by simp only [List.mem_cons, List.not_mem_nil, or_false] at hx;subst hx;exact ⟨hn, hto⟩⟩
 have HKE : Jq7 (∀ W s1 n1 c1 k1 a c, Sh W → DAt W p (flushD d2) s1 n1 c1 k1 → RV W (⟨g + 1, [(n, to)]⟩ : Rm) a c → Calls Tryz.prog 63 #[.pointer (some ⟨p, 0, none⟩), .agg (RC (g + 1) (.slice a 1 c))] W fun e w' => e = .returned (.int .i64 0) ∧ Now W w' p d4) := jq7 (fun W s1 n1 c1 k1 a c hsh h hr => by
  have := keep_calls p (flushD d2) s1 n1 c1 k1 (⟨g + 1, [(n, to)]⟩ : Rm) a c W h4o h HMO.o hr hsh h4c (by rw [h4s];exact hS)
  rw [h5] at this
  exact this)
 have HSH := jq7 hsh
 have HDO := jq7 h5o
 have HIB := jq7 (info_l hb)
 have HIN : Jq7 (∀ x y, (Tryz.prog.info? 28).map (·.size) = some (RC x y).size) := jq7 (fun _ _ => info_r _ _)
 have hzr := zero_r
 clear hok hv hR hsh h1 h2 h3 h3o h3s h4 h4o h4s h4c h5 hS hb hn hto
 have q0 : w.cell? ⟨r, 0, none⟩ = some (.int .i64 g) := Bk.cell HR.o 0
 have q1 : w.cell? ⟨r, 1, none⟩ = some (.slice none 0 0) := Bk.cell HR.o 1
 go_enter Tryz.func31, Tryz.ntmps31
 go_wp2_with (first | ((with_reducible show wkq (.load 28 _) _);refine lr 28 r (RC g (.slice none 0 0)) HR1.o (HIN.o _ _) ?_) | (go_at_call 58;(with_reducible refine (HAS.o _ HF1.o).mono ?_);rintro e w2 ⟨rfl, hf2⟩;have HF2 := fq0 HF1 hf2;have HB2 := kq0 hf2 HB1;have HR2 := kq0 hf2 HR1;clear hf2))
 refine wp_region_noPanic ?_
 refine wp_region_held_drew (S := (fun W : World => Bk W w.heap.size (b.map B).toArray 36 ∧ Bk W r (RC g (.slice none 0 0)) 28)) (by kernel_rfl) (⟨HB2.o, HR2.o⟩) (fun hL0 => ?_)
 refine tk0 (i := 0) (v := .pointer (some ⟨p, 0, none⟩)) rfl hL0 ?_
 refine tk0 (i := 1) (v := .pointer (some ⟨r, 0, none⟩)) rfl hL0 ?_
 simp only [Act.put,zA,zB,zC,zD,zE,zF]
 refine tk0 (i := 2) (v := .pointer (some ⟨r, 0, none⟩)) rfl hL0 ?_
 refine tk (i := 3) (v := .agg (RC g (.slice none 0 0))) rfl (yields_row (by kernel_rfl) 28 _ rfl (r) rfl 28 (RC g (.slice none 0 0)) (0, 0) _ (fun W h => h.2) Tryz.underlying28 rfl (HIN.o _ _)) hL0 ?_
 simp only [Act.put,zA,zB,zC,zD,zE,zF]
 refine tk0 (i := 4) (v := .int .i64 n) rfl hL0 ?_
 refine tk (i := 6) (v := .agg (b.map B).toArray) rfl (yields_row (by kernel_rfl) 36 _ rfl (w.heap.size) rfl 36 (b.map B).toArray (0, 0) _ (fun W h => h.1) Tryz.underlying36 rfl HIB.o) hL0 ?_
 simp only [Act.put,zA,zB,zC,zD,zE,zF]
 change wpAnyH _ _ _ _ _ 3 #[true, true, true, true, true, false, true, false, false] _ _
 refine rd1 5 rfl fun K hK => ?_
 simp only [zA, zB, zC]
 go_wp2_with fail
 refine (HAT.o _).mono ?_
 rintro e wx0 ⟨rfl, hfx0⟩
 dsimp only
 have HF3 : Jq7 (Fr0 w wx0) := jq7 ((Fr.drew HF2.o).then0 hfx0)
 refine hK.out _ _ (⟨hfx0.keep (hL0).1 (fun h => h), hfx0.keep (hL0).2 (fun h => h)⟩) (fun hL1 => ?_)
 clear hK K hL0
 change wpAnyH _ _ _ _ _ 2 #[true, true, true, true, true, true, true, false, false] _ _
 refine rd1 7 rfl fun K hK => ?_
 simp only [zA, zB, zC]
 go_wp2_with fail
 refine (HWR.o _ (HV.o.keep HF3.o)).mono ?_
 rintro e wx1 ⟨rfl, ⟨s4, n4, c4, m4, hv4⟩, hfx1⟩
 dsimp only
 have HV4 := jq7 hv4
 have HF4 : Jq7 (Fr (fun i => i = p) w wx1) := jq7 ((HF3.o.weaken (fun _ _ h => h.elim)).trans hfx1)
 have HW4 : Jq7 (wx1 = wx1) := jq7 rfl
 clear hv4
 refine hK.out _ _ (⟨hfx1.keep (hL1).1 (by omega), hfx1.keep (hL1).2 hrp⟩) (fun hL2 => ?_)
 clear hK K hL1
 refine tk0 (i := 8) (v := .int .i64 2) rfl hL2 ?_
 simp only [Act.put,zA,zB,zC,zD,zE,zF]
 change wpAnyH _ _ _ _ _ 0 #[true, true, true, true, true, true, true, true, true] _ _
 refine wpAnyH_done (by kernel_rfl) ?_ _
 refine NoPanic.normal ?_
 have HEND := jq7 hL2
 clear hL2
 go_wp2
 generalize wx1 = w4 at *
 have HE4 := HEND
 clear HEND
 refine wp_region_noPanic ?_
 refine wp_region_held_drew (S := (fun W : World => Bk W w.heap.size (b.map B).toArray 36 ∧ Bk W r (RC g (.slice none 0 0)) 28)) (by kernel_rfl) (⟨HE4.o.1, HE4.o.2⟩) (fun hL0 => ?_)
 refine tk0 (i := 0) (v := .pointer (some ⟨p, 0, none⟩)) rfl hL0 ?_
 refine tk0 (i := 1) (v := .pointer (some ⟨r, 0, none⟩)) rfl hL0 ?_
 simp only [Act.put,zA,zB,zC,zD,zE,zF]
 refine tk0 (i := 2) (v := .pointer (some ⟨r, 0, none⟩)) rfl hL0 ?_
 refine tk (i := 3) (v := .agg (RC g (.slice none 0 0))) rfl (yields_row (by kernel_rfl) 28 _ rfl (r) rfl 28 (RC g (.slice none 0 0)) (0, 0) _ (fun W h => h.2) Tryz.underlying28 rfl (HIN.o _ _)) hL0 ?_
 simp only [Act.put,zA,zB,zC,zD,zE,zF]
 refine tk (i := 4) (v := .agg (b.map B).toArray) rfl (yields_row (by kernel_rfl) 36 _ rfl (w.heap.size) rfl 36 (b.map B).toArray (0, 0) _ (fun W h => h.1) Tryz.underlying36 rfl HIB.o) hL0 ?_
 simp only [Act.put,zA,zB,zC,zD,zE,zF]
 change wpAnyH _ _ _ _ _ 6 #[true, true, true, true, true, false, false, false, false, false, false] _ _
 refine rd1 5 rfl fun K hK => ?_
 simp only [zA, zB, zC]
 go_wp2_with fail
 refine (HSR.o _ _ _ _ _ (HV4.o.keep (Fr.drew (Fr.refl _ _)))).mono ?_
 rintro e wx0 ⟨rfl, ⟨s5, n5, c5, m5, hv5⟩, hfx0⟩
 dsimp only
 have HV5 := jq7 hv5
 have HF5 : Jq7 (Fr (fun i => i = p) w wx0) := jq7 ((Fr.drew HF4.o).trans hfx0)
 clear hv5
 refine hK.out _ _ (⟨hfx0.keep (hL0).1 (by omega), hfx0.keep (hL0).2 hrp⟩) (fun hL1 => ?_)
 clear hK K hL0
 refine tk0 (i := 6) (v := .tuple #[.int .i64 to, .int .i64 0]) rfl hL1 ?_
 refine tk (i := 7) (v := .int .i64 to) rfl (Or.inl ⟨by kernel_rfl, fun w hSw => by go_simp⟩) hL1 ?_
 simp only [Act.put,zA,zB,zC,zD,zE,zF]
 refine tk (i := 8) (v := .int .i64 0) rfl (Or.inl ⟨by kernel_rfl, fun w hSw => by go_simp⟩) hL1 ?_
 refine tk0 (i := 9) (v := .int .i64 to) rfl hL1 ?_
 simp only [Act.put,zA,zB,zC,zD,zE,zF]
 refine tk0 (i := 10) (v := .int .i64 0) rfl hL1 ?_
 simp only [Act.put,zA,zB,zC,zD,zE,zF]
 change wpAnyH _ _ _ _ _ 0 #[true, true, true, true, true, true, true, true, true, true, true] _ _
 refine wpAnyH_done (by kernel_rfl) ?_ _
 refine NoPanic.normal ?_
 have HEND := jq7 hL1
 clear hL1
 go_wp2
 generalize wx0 = w5 at *
 have HE5 := HEND
 clear HEND HV4 HF4 HE4
 have HF50 : Jq7 (Fr0 w5 w5.drew) := jq7 (Fr.drew (Fr.refl _ _))
 have c5a : Jq7 (∀ W, Bk W r (RC g (.slice none 0 0)) 28 → W.cell? ⟨r, 0, none⟩ = some (.int .i64 g)) := jq7 (fun W h => Bk.cell h 0)
 have c5b : Jq7 (∀ W, Bk W r (RC g (.slice none 0 0)) 28 → W.cell? ⟨r, 1, none⟩ = some (.slice none 0 0)) := jq7 (fun W h => Bk.cell h 1)
 refine wp_region_noPanic ?_
 refine wp_region_held_drew (S := (fun W : World => Bk W w.heap.size (b.map B).toArray 36 ∧ Bk W r (RC g (.slice none 0 0)) 28 ∧ Fr0 w5 W)) (by kernel_rfl) (⟨HE5.o.1, HE5.o.2, HF50.o⟩) (fun hL0 => ?_)
 generalize w5.drew = wd at *
 refine tk0 (i := 0) (v := .pointer (some ⟨r, 0, none⟩)) rfl hL0 ?_
 refine tk0 (i := 1) (v := .pointer (some ⟨r, 0, none⟩)) rfl hL0 ?_
 simp only [Act.put,zA,zB,zC,zD,zE,zF]
 refine tk0 (i := 2) (v := .pointer (some ⟨r, 0, none⟩)) rfl hL0 ?_
 refine tk (i := 3) (v := .int .i64 g) rfl (Or.inl ⟨by kernel_rfl, fun w hSw => by have hcl := (fun _ h => c5a.o _ h.2.1) w hSw;go_simp⟩) hL0 ?_
 simp only [Act.put,zA,zB,zC,zD,zE,zF]
 refine tk (i := 4) (v := .int .i64 (g + 1)) rfl (Or.inl ⟨by kernel_rfl, fun w hSw => by go_simp;rw [IntKind.wrap_i64];omega⟩) hL0 ?_
 refine tk0 (i := 5) (v := .pointer (some ⟨r, 0, none⟩)) rfl hL0 ?_
 simp only [Act.put,zA,zB,zC,zD,zE,zF]
 refine tk0 (i := 6) (v := .pointer (some ⟨r, 0, none⟩)) rfl hL0 ?_
 refine tk0 (i := 7) (v := .pointer (some ⟨r, 1, none⟩)) rfl hL0 ?_
 simp only [Act.put,zA,zB,zC,zD,zE,zF]
 refine tk (i := 8) (v := (.slice none 0 0)) rfl (Or.inl ⟨by kernel_rfl, fun w hSw => by have hcl := (fun _ h => c5b.o _ h.2.1) w hSw;go_simp⟩) hL0 ?_
 simp only [Act.put,zA,zB,zC,zD,zE,zF]
 change wpAnyH _ _ _ _ _ 4 #[true, true, true, true, true, true, true, true, true, false, false, false, false] _ _
 refine wpAnyH_ready (rs := [9, 11]) (by kernel_rfl) (by simp) ?_
 refine AllReadyH.cons rfl (fun K hK => ?_) (AllReadyH.cons rfl (fun K hK => ?_) (AllReadyH.nil))
 ·simp only [zA, zB, zC]
  refine (if_pos (by kernel_rfl)).mpr ?_
  go_wp2_with fail
  refine (clone_nil _).mono ?_
  rintro e wq ⟨rfl, rfl⟩
  dsimp only
  refine hK.out _ _ (hL0) (fun hL1 => ?_)
  clear hK K hL0
  refine tk (i := 10) (v := .agg (RC (g + 1) (.slice none 0 0))) rfl (Or.inl ⟨by kernel_rfl, fun w hSw => GApp.run_build_op 28 _ rfl [(0, .int .i64 (g + 1)), (1, (.slice none 0 0))] (by simp [Act.eval, Act.put]) _ (built_rc _)⟩) hL1 ?_
  simp only [Act.put,zA,zB,zC,zD,zE,zF]
  change wpAnyH _ _ _ _ _ 2 #[true, true, true, true, true, true, true, true, true, true, true, false, false] _ _
  refine rd1 11 rfl fun K hK => ?_
  simp only [zA, zB, zC]
  have hk0 := hL1
  go_wp2_with fail
  refine hK.out _ _ (⟨Bk.alloc (hL1).1 _, Bk.alloc (hL1).2.1 _, Fr.alloc (hL1).2.2 _⟩) (fun hL2 => ?_)
  clear hK K hL1
  have HGA : Jq7 (Bk (wq.alloc (.cells RZ 28)) wq.heap.size RZ 28) := jq7 (Bk.new _ _)
  have HGE : Jq7 (w5.heap.size ≤ wq.heap.size) := jq7 (hk0.2.2.size)
  clear hk0
  generalize (wq.alloc (.cells RZ 28)) = wa at *
  generalize wq.heap.size = gx at *
  change wpAnyH _ _ _ _ _ 1 #[true, true, true, true, true, true, true, true, true, true, true, true, false] _ _
  refine rd1 12 rfl fun K hK => ?_
  simp only [zA, zB, zC]
  have hge := HGE.o
  have h5r := Bk.lt HE5.o.2
  have h5b := Bk.lt HE5.o.1
  refine wp_store_row 28 _ _ rfl gx (RC (g + 1) (.slice none 0 0)) rfl rfl 28 RZ HGA.o (HIN.o _ _) rfl (RC_all _ _ _ _) ?_
  refine hK.out _ _ (⟨ArrKit.Bk.rowOther (hL2).1 _ (by omega), ArrKit.Bk.rowOther (hL2).2.1 _ (by omega), ArrKit.Fr.row (hL2).2.2 _ _ (.inl (by omega))⟩) (fun hL3 => ?_)
  clear hK K hL2
  have HGX6 : Jq7 (Bk (wa.setRow gx (RC (g + 1) (.slice none 0 0))) gx (RC (g + 1) (.slice none 0 0)) 28) := jq7 (ArrKit.Bk.row HGA.o _)
  generalize wa.setRow gx (RC (g + 1) (.slice none 0 0)) = w6 at *
  change wpAnyH _ _ _ _ _ 0 #[true, true, true, true, true, true, true, true, true, true, true, true, true] _ _
  refine wpAnyH_done (by kernel_rfl) ?_ _
  refine NoPanic.normal ?_
  have HEND := jq7 hL3
  clear hL3
  obtain ⟨i1, hy0, hz0, hz1, hz2⟩ := info_parts infoPr
  have HJ : Jq7 (Tryz.prog.info? 70 = some i1 ∧ i1.zero = some (.agg PZ2) ∧ i1.size = 2 ∧ i1.bytes = 16) := jq7 ⟨hy0, hz0, hz1, hz2⟩
  clear hy0 hz0 hz1 hz2
  have hgxp : gx ≠ p := by have := HGE.o;have := Bk.lt HE5.o.1;omega
  have h5w : w.heap.size < w5.heap.size := Bk.lt HE5.o.1
  have HSN : Jq7 (¬ 1 = p ∧ ¬ 0 = p) := jq7 (by have := HSH.o.ne HV.o.blk (by show (4 : Nat) ≠ 8;decide) (by show (4 : Nat) ≠ 64;decide);exact ⟨fun e => this.1 e.symm, fun e => this.2 e.symm⟩)
  go_wp2_with (first | ((with_reducible show wkq (.load 28 _) _);refine lr 28 r (RC g (.slice none 0 0)) HEND.o.2.1 (HIN.o _ _) ?_) | (go_at_call 62;(with_reducible refine (HPC.o _).mono ?_);rintro e w7 ⟨rfl, hf7⟩;have HGX7 := kq0 hf7 HGX6;have HF57 := jq7 (HEND.o.2.2.then0 hf7);have HR7 := jq7 (hf7.keep HEND.o.2.1 (fun h => h));have gx1 : w7.cell? ⟨gx, 1, none⟩ = some (.slice none 0 0) := Bk.cell HGX7.o 1;clear hf7) | ((with_reducible show wkq (.build 70 _) _);refine build_ev rfl 70 _ rfl [(0, .int .i64 n), (1, .int .i64 to)] (by simp [Act.eval, Act.put]) (PR (n, to)).toArray (built_pr _ _) ?_) | ((with_reducible show wkq (.buildSlice 26 1 _) _);refine wpList_plain rfl fun K hK => ?_;refine GApp.wp_buildSlice_one 26 _ rfl 70 i1 _ 2 Tryz.underlying26 HJ.o.1 HJ.o.2.1 HJ.o.2.2.1 (by decide) (by decide) (PR (n, to)).toArray rfl rfl ?_;refine hK _ _ ?_) | (at_builtin;refine wpList_plain rfl fun K hK => ?_;obtain ⟨g8, cap8, cur8, w8, hr8, hg8, ho8, hf8⟩ := GApp.run_append_one (P := Tryz.prog) (f := PR) (k := 2) (e := 70) (w7.alloc (.cells (PR (n, to)).toArray 70)) 26 26 i1 _ 16 Tryz.underlying26 HJ.o.1 HJ.o.2.1 HJ.o.2.2.1 HJ.o.2.2.2 rfl (by decide) none 0 [] rfl (RdG.nil _ _) (fun _ h => by cases h) w7.heap.size 1 (n, to) rfl (Bk.new w7 _) (by omega) (by omega) (fun _ => rfl);refine GApp.wp_append_run (.tmp 67) (.tmp 71) 26 (by rfl) _ _ _ (by rfl) (by rfl) hr8 ?_;refine hK _ _ ?_;have HGX8 := jq7 (hf8.keep (Bk.alloc HGX7.o _) (fun h => h));have HR8 := jq7 (hf8.keep (Bk.alloc HR7.o _) (fun h => h));have HF58 := jq7 ((Fr.alloc HF57.o _).then0 hf8);have HO8 := jq7 ho8;have HG8 : Jq7 (w5.heap.size ≤ g8) := jq7 (by have h1 := HF57.o.size;simp at hg8;omega);have HNX : Jq7 (g8 ≠ gx) := jq7 (by have h2 := Bk.lt HGX7.o;simp at hg8;omega);have gx8 : w8.cell? ⟨gx, 1, none⟩ = some (.slice none 0 0) := Bk.cell HGX8.o 1;have fx8 := Bk.free HGX8.o 1;have HGX9 : Jq7 (Bk (w8.setCell ⟨gx, 1, none⟩ (.slice (some ⟨g8, 0, none⟩) 1 cap8)) gx (RC (g + 1) (.slice (some ⟨g8, 0, none⟩) 1 cap8)) 28) := jq7 (Bk.set HGX8.o 1 (.slice (some ⟨g8, 0, none⟩) 1 cap8));have HR9 : Jq7 (Bk (w8.setCell ⟨gx, 1, none⟩ (.slice (some ⟨g8, 0, none⟩) 1 cap8)) r (RC g (.slice none 0 0)) 28) := jq7 (Bk.setOther HR8.o _ _ (by show r ≠ gx;have := HGE.o;omega));have HO9 : Jq7 (OwnP (w8.setCell ⟨gx, 1, none⟩ (.slice (some ⟨g8, 0, none⟩) 1 cap8)) g8 cap8 cur8 [(n, to)]) := jq7 (OwnG.keep HO8.o (Fr.set1 w8 gx 1 (.slice (some ⟨g8, 0, none⟩) 1 cap8)) HNX.o);have HF59 : Jq7 (Fr0 w5 (w8.setCell ⟨gx, 1, none⟩ (.slice (some ⟨g8, 0, none⟩) 1 cap8))) := jq7 (Fr.set HF58.o _ _ (.inl (by show w5.heap.size ≤ gx;exact HGE.o)));clear hr8 hg8 ho8 hf8) | (go_at_call 18;(with_reducible refine (HFL.o _ _ _ _ _ (HV5.o.keep HF59.o)).mono ?_);rintro e w10 ⟨rfl, ⟨sA, nA, cA, mA, hvA⟩, hf10⟩;have HV10 := jq7 hvA;have HGX10 := jq7 (hf10.keep HGX9.o (by omega));have HR10 := jq7 (hf10.keep HR9.o hrp);have HO10 := jq7 (OwnG.keep HO9.o hf10 (by have := HG8.o;omega));have HRV10 : Jq7 (RV w10 (⟨g + 1, [(n, to)]⟩ : Rm) (some ⟨g8, 0, none⟩) cap8) := jq7 ⟨OwnG.rd HO10.o, HO10.o.room, HO10.o.max⟩;have HF10 : Jq7 (Fr (fun i => i = p) w w10) := jq7 ((HF5.o.trans (HF59.o.weaken (fun _ _ h => h.elim))).trans hf10);clear hvA hf10) | (go_at_call 63;(with_reducible refine (HKE.o _ _ _ _ _ (some ⟨g8, 0, none⟩) cap8 (HSH.o.keep HF10.o HSN.o.1 HSN.o.2) HV10.o HRV10.o).mono ?_);rintro e w11 ⟨rfl, ⟨sB, nB, cB, mB, hvB⟩, hf11⟩;have HV11 := jq7 hvB;have HGX11 := jq7 (hf11.keep HGX10.o (by omega));have HR11 := jq7 (hf11.keep HR10.o hrp);have HO11 := jq7 (OwnG.keep HO10.o hf11 (by have := HG8.o;omega));have HF11 : Jq7 (Fr (fun i => i = p) w w11) := jq7 (HF10.o.trans hf11);clear hvB hf11) | ((with_reducible show wkq (.load 28 _) _);refine lr 28 gx (RC (g + 1) (.slice (some ⟨g8, 0, none⟩) 1 cap8)) HGX11.o (HIN.o _ _) ?_) | ((with_reducible show wkq (.load 28 _) _);refine lr 28 gx (RC (g + 1) (.slice (some ⟨g8, 0, none⟩) 1 cap8)) HGX10.o (HIN.o _ _) ?_) | ((with_reducible show wkq (.store 28 _ _) _);refine wpList_store_row rfl 28 _ _ rfl r (RC (g + 1) (.slice (some ⟨g8, 0, none⟩) 1 cap8)) rfl rfl 28 (RC g (.slice none 0 0)) HR11.o (HIN.o _ _) rfl (RC_all _ _ _ _) ?_))
  go_ret
  have hfr : Fr (fun i => i = p ∨ i = r) w w11 := HF11.o.weaken (fun _ _ h => .inl h)
  have h12 : Fr (fun i => i = r) w11 (w11.setRow r (RC (g + 1) (.slice (some ⟨g8, 0, none⟩) 1 cap8))) := Fr.row1 _ r _
  refine ⟨rfl, ⟨_, _, _, _, DAt_past HV11.o HDO.o h12 HR11.o (rc_no _ _ _ _) (fun e => hrp e.symm)⟩, ⟨g8, cap8, cur8, ArrKit.Bk.row HR11.o _, OwnG.keep HO11.o h12 (by have := HG8.o;omega)⟩, hfr.then h12 (fun i _ e => .inr e)⟩
 ·simp only [zA, zB, zC]
  refine (if_pos (by kernel_rfl)).mpr ?_
  have hk0 := hL0
  go_wp2_with fail
  refine hK.out _ _ (⟨Bk.alloc (hL0).1 _, Bk.alloc (hL0).2.1 _, Fr.alloc (hL0).2.2 _⟩) (fun hL1 => ?_)
  clear hK K hL0
  have HGA : Jq7 (Bk (wd.alloc (.cells RZ 28)) wd.heap.size RZ 28) := jq7 (Bk.new _ _)
  have HGE : Jq7 (w5.heap.size ≤ wd.heap.size) := jq7 (hk0.2.2.size)
  clear hk0
  generalize (wd.alloc (.cells RZ 28)) = wa at *
  generalize wd.heap.size = gx at *
  change wpAnyH _ _ _ _ _ 3 #[true, true, true, true, true, true, true, true, true, false, false, true, false] _ _
  refine rd1 9 rfl fun K hK => ?_
  simp only [zA, zB, zC]
  go_wp2_with fail
  refine (clone_nil _).mono ?_
  rintro e wq ⟨rfl, rfl⟩
  dsimp only
  refine hK.out _ _ (hL1) (fun hL2 => ?_)
  clear hK K hL1
  refine tk (i := 10) (v := .agg (RC (g + 1) (.slice none 0 0))) rfl (Or.inl ⟨by kernel_rfl, fun w hSw => GApp.run_build_op 28 _ rfl [(0, .int .i64 (g + 1)), (1, (.slice none 0 0))] (by simp [Act.eval, Act.put]) _ (built_rc _)⟩) hL2 ?_
  simp only [Act.put,zA,zB,zC,zD,zE,zF]
  change wpAnyH _ _ _ _ _ 1 #[true, true, true, true, true, true, true, true, true, true, true, true, false] _ _
  refine rd1 12 rfl fun K hK => ?_
  simp only [zA, zB, zC]
  have hge := HGE.o
  have h5r := Bk.lt HE5.o.2
  have h5b := Bk.lt HE5.o.1
  refine wp_store_row 28 _ _ rfl gx (RC (g + 1) (.slice none 0 0)) rfl rfl 28 RZ HGA.o (HIN.o _ _) rfl (RC_all _ _ _ _) ?_
  refine hK.out _ _ (⟨ArrKit.Bk.rowOther (hL2).1 _ (by omega), ArrKit.Bk.rowOther (hL2).2.1 _ (by omega), ArrKit.Fr.row (hL2).2.2 _ _ (.inl (by omega))⟩) (fun hL3 => ?_)
  clear hK K hL2
  have HGX6 : Jq7 (Bk (wq.setRow gx (RC (g + 1) (.slice none 0 0))) gx (RC (g + 1) (.slice none 0 0)) 28) := jq7 (ArrKit.Bk.row HGA.o _)
  generalize wq.setRow gx (RC (g + 1) (.slice none 0 0)) = w6 at *
  change wpAnyH _ _ _ _ _ 0 #[true, true, true, true, true, true, true, true, true, true, true, true, true] _ _
  refine wpAnyH_done (by kernel_rfl) ?_ _
  refine NoPanic.normal ?_
  have HEND := jq7 hL3
  clear hL3
  obtain ⟨i1, hy0, hz0, hz1, hz2⟩ := info_parts infoPr
  have HJ : Jq7 (Tryz.prog.info? 70 = some i1 ∧ i1.zero = some (.agg PZ2) ∧ i1.size = 2 ∧ i1.bytes = 16) := jq7 ⟨hy0, hz0, hz1, hz2⟩
  clear hy0 hz0 hz1 hz2
  have hgxp : gx ≠ p := by have := HGE.o;have := Bk.lt HE5.o.1;omega
  have h5w : w.heap.size < w5.heap.size := Bk.lt HE5.o.1
  have HSN : Jq7 (¬ 1 = p ∧ ¬ 0 = p) := jq7 (by have := HSH.o.ne HV.o.blk (by show (4 : Nat) ≠ 8;decide) (by show (4 : Nat) ≠ 64;decide);exact ⟨fun e => this.1 e.symm, fun e => this.2 e.symm⟩)
  go_wp2_with (first | ((with_reducible show wkq (.load 28 _) _);refine lr 28 r (RC g (.slice none 0 0)) HEND.o.2.1 (HIN.o _ _) ?_) | (go_at_call 62;(with_reducible refine (HPC.o _).mono ?_);rintro e w7 ⟨rfl, hf7⟩;have HGX7 := kq0 hf7 HGX6;have HF57 := jq7 (HEND.o.2.2.then0 hf7);have HR7 := jq7 (hf7.keep HEND.o.2.1 (fun h => h));have gx1 : w7.cell? ⟨gx, 1, none⟩ = some (.slice none 0 0) := Bk.cell HGX7.o 1;clear hf7) | ((with_reducible show wkq (.build 70 _) _);refine build_ev rfl 70 _ rfl [(0, .int .i64 n), (1, .int .i64 to)] (by simp [Act.eval, Act.put]) (PR (n, to)).toArray (built_pr _ _) ?_) | ((with_reducible show wkq (.buildSlice 26 1 _) _);refine wpList_plain rfl fun K hK => ?_;refine GApp.wp_buildSlice_one 26 _ rfl 70 i1 _ 2 Tryz.underlying26 HJ.o.1 HJ.o.2.1 HJ.o.2.2.1 (by decide) (by decide) (PR (n, to)).toArray rfl rfl ?_;refine hK _ _ ?_) | (at_builtin;refine wpList_plain rfl fun K hK => ?_;obtain ⟨g8, cap8, cur8, w8, hr8, hg8, ho8, hf8⟩ := GApp.run_append_one (P := Tryz.prog) (f := PR) (k := 2) (e := 70) (w7.alloc (.cells (PR (n, to)).toArray 70)) 26 26 i1 _ 16 Tryz.underlying26 HJ.o.1 HJ.o.2.1 HJ.o.2.2.1 HJ.o.2.2.2 rfl (by decide) none 0 [] rfl (RdG.nil _ _) (fun _ h => by cases h) w7.heap.size 1 (n, to) rfl (Bk.new w7 _) (by omega) (by omega) (fun _ => rfl);refine GApp.wp_append_run (.tmp 67) (.tmp 71) 26 (by rfl) _ _ _ (by rfl) (by rfl) hr8 ?_;refine hK _ _ ?_;have HGX8 := jq7 (hf8.keep (Bk.alloc HGX7.o _) (fun h => h));have HR8 := jq7 (hf8.keep (Bk.alloc HR7.o _) (fun h => h));have HF58 := jq7 ((Fr.alloc HF57.o _).then0 hf8);have HO8 := jq7 ho8;have HG8 : Jq7 (w5.heap.size ≤ g8) := jq7 (by have h1 := HF57.o.size;simp at hg8;omega);have HNX : Jq7 (g8 ≠ gx) := jq7 (by have h2 := Bk.lt HGX7.o;simp at hg8;omega);have gx8 : w8.cell? ⟨gx, 1, none⟩ = some (.slice none 0 0) := Bk.cell HGX8.o 1;have fx8 := Bk.free HGX8.o 1;have HGX9 : Jq7 (Bk (w8.setCell ⟨gx, 1, none⟩ (.slice (some ⟨g8, 0, none⟩) 1 cap8)) gx (RC (g + 1) (.slice (some ⟨g8, 0, none⟩) 1 cap8)) 28) := jq7 (Bk.set HGX8.o 1 (.slice (some ⟨g8, 0, none⟩) 1 cap8));have HR9 : Jq7 (Bk (w8.setCell ⟨gx, 1, none⟩ (.slice (some ⟨g8, 0, none⟩) 1 cap8)) r (RC g (.slice none 0 0)) 28) := jq7 (Bk.setOther HR8.o _ _ (by show r ≠ gx;have := HGE.o;omega));have HO9 : Jq7 (OwnP (w8.setCell ⟨gx, 1, none⟩ (.slice (some ⟨g8, 0, none⟩) 1 cap8)) g8 cap8 cur8 [(n, to)]) := jq7 (OwnG.keep HO8.o (Fr.set1 w8 gx 1 (.slice (some ⟨g8, 0, none⟩) 1 cap8)) HNX.o);have HF59 : Jq7 (Fr0 w5 (w8.setCell ⟨gx, 1, none⟩ (.slice (some ⟨g8, 0, none⟩) 1 cap8))) := jq7 (Fr.set HF58.o _ _ (.inl (by show w5.heap.size ≤ gx;exact HGE.o)));clear hr8 hg8 ho8 hf8) | (go_at_call 18;(with_reducible refine (HFL.o _ _ _ _ _ (HV5.o.keep HF59.o)).mono ?_);rintro e w10 ⟨rfl, ⟨sA, nA, cA, mA, hvA⟩, hf10⟩;have HV10 := jq7 hvA;have HGX10 := jq7 (hf10.keep HGX9.o (by omega));have HR10 := jq7 (hf10.keep HR9.o hrp);have HO10 := jq7 (OwnG.keep HO9.o hf10 (by have := HG8.o;omega));have HRV10 : Jq7 (RV w10 (⟨g + 1, [(n, to)]⟩ : Rm) (some ⟨g8, 0, none⟩) cap8) := jq7 ⟨OwnG.rd HO10.o, HO10.o.room, HO10.o.max⟩;have HF10 : Jq7 (Fr (fun i => i = p) w w10) := jq7 ((HF5.o.trans (HF59.o.weaken (fun _ _ h => h.elim))).trans hf10);clear hvA hf10) | (go_at_call 63;(with_reducible refine (HKE.o _ _ _ _ _ (some ⟨g8, 0, none⟩) cap8 (HSH.o.keep HF10.o HSN.o.1 HSN.o.2) HV10.o HRV10.o).mono ?_);rintro e w11 ⟨rfl, ⟨sB, nB, cB, mB, hvB⟩, hf11⟩;have HV11 := jq7 hvB;have HGX11 := jq7 (hf11.keep HGX10.o (by omega));have HR11 := jq7 (hf11.keep HR10.o hrp);have HO11 := jq7 (OwnG.keep HO10.o hf11 (by have := HG8.o;omega));have HF11 : Jq7 (Fr (fun i => i = p) w w11) := jq7 (HF10.o.trans hf11);clear hvB hf11) | ((with_reducible show wkq (.load 28 _) _);refine lr 28 gx (RC (g + 1) (.slice (some ⟨g8, 0, none⟩) 1 cap8)) HGX11.o (HIN.o _ _) ?_) | ((with_reducible show wkq (.load 28 _) _);refine lr 28 gx (RC (g + 1) (.slice (some ⟨g8, 0, none⟩) 1 cap8)) HGX10.o (HIN.o _ _) ?_) | ((with_reducible show wkq (.store 28 _ _) _);refine wpList_store_row rfl 28 _ _ rfl r (RC (g + 1) (.slice (some ⟨g8, 0, none⟩) 1 cap8)) rfl rfl 28 (RC g (.slice none 0 0)) HR11.o (HIN.o _ _) rfl (RC_all _ _ _ _) ?_))
  go_ret
  have hfr : Fr (fun i => i = p ∨ i = r) w w11 := HF11.o.weaken (fun _ _ h => .inl h)
  have h12 : Fr (fun i => i = r) w11 (w11.setRow r (RC (g + 1) (.slice (some ⟨g8, 0, none⟩) 1 cap8))) := Fr.row1 _ r _
  refine ⟨rfl, ⟨_, _, _, _, DAt_past HV11.o HDO.o h12 HR11.o (rc_no _ _ _ _) (fun e => hrp e.symm)⟩, ⟨g8, cap8, cur8, ArrKit.Bk.row HR11.o _, OwnG.keep HO11.o h12 (by have := HG8.o;omega)⟩, hfr.then h12 (fun i _ e => .inr e)⟩


end Go.Proofs.YtmkmpfnadcmcoaaGreatDoor.RmFirst
namespace Go.Proofs.YtmkmpfnadcmcoaaGreatDoor.RmFormat
open Go Go.RowKit K EqKit ArrKit HeldKit GKit GRow DiskKit RmKit MapKit RmRight RmRRight RmTab RmPut RmAsk RmSame DiskRRead RmRead RmReads DiskAct RmSpare RmKeep RmFirst
theorem built_rz : Tryz.prog.built 28 [] = some RZ := by kernel_rfl
theorem tabB_nil {s : Int} (h : half s ≠ 0) : tabB (⟨0, []⟩ : Rm) s = true := by
 unfold tabB
 rw [decide_eq_true h]
 rfl
theorem format_calls (p : Nat) (d : Dk) (sa : Option Addr) (sc : Nat) (ca : Option Addr) (cc : Nat) (N : Nat) (w : World) (hok : d.ok) (hv : DAt w p d sa sc ca cc) (hsh : Sh w) (hC : d.C.length ≤ 1000) (hh : hvI d = (N : Int)) (hN : N ≠ 0) (hN2 : N ≤ 2038) (hS : half (d.S.length : Int) ≠ 0) (h1 : writeE d 0 = 0) (h2 : writeE (writeD d 0 (tabL (⟨0, []⟩ : Rm))) (N : Int) = 0) (h3 : flushE (writeD (writeD d 0 (tabL (⟨0, []⟩ : Rm))) (N : Int) (tabL (⟨0, []⟩ : Rm))) = 0) (h4 : (flushD (writeD (writeD d 0 (tabL (⟨0, []⟩ : Rm))) (N : Int) (tabL (⟨0, []⟩ : Rm)))).ok) :
  Calls Tryz.prog 29 #[.pointer (some ⟨p, 0, none⟩)] w fun e w' => e = .returned (.tuple #[.agg RZ, .int .i64 0]) ∧ DIn w' p (flushD (writeD (writeD d 0 (tabL (⟨0, []⟩ : Rm))) (N : Int) (tabL (⟨0, []⟩ : Rm)))) ∧ Fr (fun i => i = p) w w' := by
 have HV := jq7 hv
 have hpw : p < w.heap.size := Bk.lt hv.blk
 have HR1 : Jq7 (Bk (w.alloc (.cells RZ 28)) w.heap.size RZ 28) := jq7 (Bk.new w _)
 have HF1 : Jq7 (Fr0 w (w.alloc (.cells RZ 28))) := jq7 (Fr.alloc (Fr.refl _ _) _)
 have HHV : Jq7 (∀ W, Fr0 w W → Calls Tryz.prog 53 #[.pointer (some ⟨p, 0, none⟩)] W fun e w' => e = .returned (.int .i64 (N : Int)) ∧ Fr0 W w') := jq7 (fun W f => by have := halves_calls p d sa sc ca cc W hok (hv.keep f);rwa [hh] at this)
 have htb := tabB_nil hS
 have htl : (tabL (⟨0, []⟩ : Rm)).length = 128 := tabL_len _ (by decide)
 have HPU : Jq7 (∀ W, Fr0 w W → Calls Tryz.prog 54 #[.agg RZ, .int .i64 (d.S.length : Int)] W fun e w' => e = .returned (.tuple #[.agg ((tabL (⟨0, []⟩ : Rm)).map B).toArray, .int .i64 0]) ∧ Fr0 W w') := jq7 (fun W f => by
  have := RmPut.put_calls (⟨0, []⟩ : Rm) none 0 (d.S.length : Int) W ⟨by decide, fun x hx => by cases hx⟩ (rv_nil W 0) (wf_nat (Nat.le_trans hv.v.sn hv.v.sm)) (hsh.keep0 f)
  unfold tabX tabE at this
  rw [if_pos htb, if_pos htb] at this
  exact this)
 have HQ1 : Jq7 ((Lit.int .i64 (0 : Int)).wf = true) := jq7 (by decide)
 have HQ2 : Jq7 ((Lit.int .i64 (N : Int)).wf = true) := jq7 (wf_nat (by omega))
 have HW1 : Jq7 (∀ W, DAt W p d sa sc ca cc → Calls Tryz.prog 55 #[.pointer (some ⟨p, 0, none⟩), .int .i64 0, .agg ((tabL (⟨0, []⟩ : Rm)).map B).toArray] W fun e w' => e = .returned (.int .i64 0) ∧ Now W w' p (writeD d 0 (tabL (⟨0, []⟩ : Rm)))) := jq7 (fun W h => by have := DiskWrite.write_calls p 0 (tabL (⟨0, []⟩ : Rm)) d sa sc ca cc W hok h htl (by omega) HQ1.o;rwa [h1] at this)
 have HO1 := jq7 (writeD_ok hok htl HQ1.o)
 have HC1 := jq7 (Nat.le_trans (writeD_C d 0 (tabL (⟨0, []⟩ : Rm))) (Nat.add_le_add_right hC 1))
 have HW2 : Jq7 (∀ W s n c k, DAt W p (writeD d 0 (tabL (⟨0, []⟩ : Rm))) s n c k → Calls Tryz.prog 55 #[.pointer (some ⟨p, 0, none⟩), .int .i64 (N : Int), .agg ((tabL (⟨0, []⟩ : Rm)).map B).toArray] W fun e w' => e = .returned (.int .i64 0) ∧ Now W w' p (writeD (writeD d 0 (tabL (⟨0, []⟩ : Rm))) (N : Int) (tabL (⟨0, []⟩ : Rm)))) := jq7 (fun W s n c k h => by have := DiskWrite.write_calls p (N : Int) (tabL (⟨0, []⟩ : Rm)) _ s n c k W HO1.o h htl (by have := HC1.o;omega) HQ2.o;rwa [h2] at this)
 have HO2 := jq7 (writeD_ok HO1.o htl HQ2.o)
 have HFL : Jq7 (∀ W s n c k, DAt W p (writeD (writeD d 0 (tabL (⟨0, []⟩ : Rm))) (N : Int) (tabL (⟨0, []⟩ : Rm))) s n c k → Calls Tryz.prog 18 #[.pointer (some ⟨p, 0, none⟩)] W fun e w' => e = .returned (.int .i64 0) ∧ Now W w' p (flushD (writeD (writeD d 0 (tabL (⟨0, []⟩ : Rm))) (N : Int) (tabL (⟨0, []⟩ : Rm))))) := jq7 (fun W s n c k h => by have := DiskFlush.flush_calls p _ s n c k W HO2.o h;rwa [h3] at this)
 have HOE := jq7 h4
 have hix0 : ∀ W, (Instr.index 85 (.agg #[.int .i64 0, .int .i64 (N : Int)]) (.int .i64 0)).run Tryz.prog W = .ok (.int .i64 0) W := fun W => ShaStep.index_arr (k := 0) W Tryz.underlying85 (e := 3) (by kernel_rfl) (by kernel_rfl) (by decide) rfl
 have hix1 : ∀ W, (Instr.index 85 (.agg #[.int .i64 0, .int .i64 (N : Int)]) (.int .i64 1)).run Tryz.prog W = .ok (.int .i64 (N : Int)) W := fun W => ShaStep.index_arr (k := 1) W Tryz.underlying85 (e := 3) (by kernel_rfl) (by kernel_rfl) (by decide) rfl
 have HC0 : Jq7 (∀ W, Fr0 w W → W.cell? ⟨p, 0, none⟩ = some (.slice sa d.S.length sc)) := jq7 (fun W f => Bk.cell (hv.keep f).blk 0)
 have hzr := zero_r
 have hzb := zero_bl
 have HIL := jq7 (info_l htl)
 have HSL := jq7 (size_l htl)
 have HOL := jq7 (one_l (tabL (⟨0, []⟩ : Rm)))
 have HIR : Jq7 ((Tryz.prog.info? 28).map (·.size) = some RZ.size) := jq7 (info_r _ _)
 have hNb : ((N : Int) == 0) = false := by rw [beq_eq_false_iff_ne];omega
 clear hok hv hsh hC hh hS h1 h2 h3 htb htl hN
 generalize hd : flushD (writeD (writeD d 0 (tabL (⟨0, []⟩ : Rm))) (N : Int) (tabL (⟨0, []⟩ : Rm))) = dE at *
 generalize (writeD (writeD d 0 (tabL (⟨0, []⟩ : Rm))) (N : Int) (tabL (⟨0, []⟩ : Rm))) = d2 at *
 generalize (writeD d 0 (tabL (⟨0, []⟩ : Rm))) = d1 at *
 generalize tabL (⟨0, []⟩ : Rm) = L at *
 go_enter Tryz.func29, Tryz.ntmps29
 go_wp2_with (first | (go_at_call 53;(with_reducible refine (HHV.o _ HF1.o).mono ?_);rintro e w2 ⟨rfl, hf2⟩;have HF2 := fq0 HF1 hf2;have HR2 := kq0 hf2 HR1;have c2 := HC0.o _ HF2.o;clear hf2) | ((with_reducible show wkq (.build 28 _) _);refine build_ev rfl 28 _ rfl [] (by simp) RZ built_rz ?_) | (go_at_call 54;(with_reducible refine (HPU.o _ HF2.o).mono ?_);rintro e w3 ⟨rfl, hf3⟩;have HF3 := fq0 HF2 hf3;have HR3 := kq0 hf3 HR2;have HZ3 := jq7 (Bk.new w3 (.cells ZB 36));clear hf3) | ((with_reducible show wkq (.store 36 _ _) _);refine wpList_store_row rfl 36 _ _ rfl w3.heap.size (L.map B).toArray rfl rfl 36 ZB HZ3.o HIL.o HSL.o HOL.o ?_))
 have hf4 : Fr0 w3 ((w3.alloc (.cells ZB 36)).setRow w3.heap.size (L.map B).toArray) := ArrKit.Fr.row (Fr.alloc (Fr.refl _ _) _) _ _ (.inl (Nat.le_refl _))
 have HG4 := jq7 (ArrKit.Bk.row HZ3.o (L.map B).toArray)
 have HR4 := kq0 hf4 HR3
 have HF4 := fq0 HF3 hf4
 have hgw : w.heap.size < w3.heap.size := Bk.lt HR3.o
 clear hf4 HZ3 HR3 HF3 c2 HR2 HF2 HR1 HF1
 generalize (w3.alloc (.cells ZB 36)).setRow w3.heap.size (L.map B).toArray = w4 at *
 generalize w3.heap.size = gb at *
 have hgp : gb ≠ p := by omega
 have hRp : w.heap.size ≠ p := by omega
 refine wp_loop_rounds 3 ?_
 rw [rounds_succ]
 go_wp2_with (first | ((with_reducible show wkq (.load 36 _) _);refine lr 36 gb (L.map B).toArray HG4.o HIL.o ?_) | (go_at_call 55;(with_reducible refine (HW1.o _ (HV.o.keep HF4.o)).mono ?_);rintro e w5 ⟨rfl, ⟨s5, n5, c5, m5, hv5⟩, hf5⟩;have HV5 := jq7 hv5;have HG5 := jq7 (hf5.keep HG4.o hgp);have HR5 := jq7 (hf5.keep HR4.o hRp);have HF5 : Jq7 (Fr (fun i => i = p) w w5) := jq7 ((HF4.o.weaken (fun _ _ h => h.elim)).trans hf5);clear hv5 hf5))
 rw [rounds_succ]
 go_wp2_with (first | ((with_reducible show wkq (.load 36 _) _);refine lr 36 gb (L.map B).toArray HG5.o HIL.o ?_) | (go_at_call 55;(with_reducible refine (HW2.o _ _ _ _ _ HV5.o).mono ?_);rintro e w6 ⟨rfl, ⟨s6, n6, c6, m6, hv6⟩, hf6⟩;have HV6 := jq7 hv6;have HR6 := jq7 (hf6.keep HR5.o hRp);have HF6 : Jq7 (Fr (fun i => i = p) w w6) := jq7 (HF5.o.trans hf6);clear hv6 hf6))
 rw [rounds_succ]
 go_wp2_with (first | ((with_reducible show wkq (.build 28 _) _);refine build_ev rfl 28 _ rfl [] (by simp) RZ built_rz ?_) | (go_at_call 18;(with_reducible refine (HFL.o _ _ _ _ _ HV6.o).mono ?_);rintro e w7 ⟨rfl, hn7⟩;have HN7 := jq7 hn7;have HR7 := jq7 (hn7.fr.keep HR6.o hRp);clear hn7) | ((with_reducible show wkq (.store 28 _ _) _);refine wpList_store_row rfl 28 _ _ rfl w.heap.size RZ rfl rfl 28 RZ HR7.o HIR.o rfl (RC_all _ _ _ _) ?_))
 refine fin_ct w.heap.size 28 RZ (.int .i64 0) (by rfl) (by rfl) (by rfl) (by rfl) Tryz.underlying28 (by rfl) HIR.o (ArrKit.Bk.row HR7.o _) ?_
 obtain ⟨s7, n7, c7, m7, hv7⟩ := HN7.o.at_
 have h12 : Fr (fun i => i = w.heap.size) w7 (w7.setRow w.heap.size RZ) := Fr.row1 _ _ _
 refine ⟨rfl, ⟨_, _, _, _, DAt_past hv7 HOE.o h12 HR7.o (rc_no _ _ _ _) (fun e => hRp e.symm)⟩, ArrKit.Fr.row (HF6.o.trans HN7.o.fr) _ _ (.inl (Nat.le_refl _))⟩

end Go.Proofs.YtmkmpfnadcmcoaaGreatDoor.RmFormat
