/- The theorems that the claim uses, text behind text (part 16). -/
import Derived.Test.YtmkmpfnadcmcoaaDoorXao
set_option maxRecDepth 100000
set_option linter.unusedVariables false
set_option linter.unusedSimpArgs false
namespace Go.Proofs.YtmkmpfnadcmcoaaDoor.RmFirst
open Go Go.RowKit Go.Proofs.YtmkmpfnadcmcoaaDoor.K Go.Proofs.YtmkmpfnadcmcoaaDoor.EqKit Go.Proofs.YtmkmpfnadcmcoaaDoor.ArrKit Go.Proofs.YtmkmpfnadcmcoaaDoor.HeldKit Go.Proofs.YtmkmpfnadcmcoaaDoor.GKit Go.Proofs.YtmkmpfnadcmcoaaDoor.GRow Go.Proofs.YtmkmpfnadcmcoaaDoor.DiskKit Go.Proofs.YtmkmpfnadcmcoaaDoor.RmKit Go.Proofs.YtmkmpfnadcmcoaaDoor.MapKit Go.Proofs.YtmkmpfnadcmcoaaDoor.RmRight Go.Proofs.YtmkmpfnadcmcoaaDoor.RmTab Go.Proofs.YtmkmpfnadcmcoaaDoor.RmPut Go.Proofs.YtmkmpfnadcmcoaaDoor.RmAsk Go.Proofs.YtmkmpfnadcmcoaaDoor.RmSame Go.Proofs.YtmkmpfnadcmcoaaDoor.DiskRRead Go.Proofs.YtmkmpfnadcmcoaaDoor.RmRead Go.Proofs.YtmkmpfnadcmcoaaDoor.RmReads Go.Proofs.YtmkmpfnadcmcoaaDoor.DiskAct Go.Proofs.YtmkmpfnadcmcoaaDoor.RmSpare Go.Proofs.YtmkmpfnadcmcoaaDoor.RmKeep
theorem RdS_apart {w : World} {a : Addr} {l : List Sec} {p t : Nat} {cs : Array Value} (h : RdS w (some a) l) (hl : l ≠ []) (hok : ∀ x ∈ l, x.ok) (hb : Bk w p cs t) (hn : ∀ (j : Nat) (x : Value), cs[j]? = some x → ∀ v : UInt8, x ≠ B v) : a.block ≠ p := by
  rintro rfl
  have h0 : 0 < l.length := List.length_pos_iff.2 hl
  obtain ⟨b, o, e0, -, hr⟩ := RdG.form h h0 Sec.pos
  obtain rfl := Option.some.inj e0
  have hk := hok _ (List.getElem_mem h0)
  have h1 : l[0].data.length = 128 := hk
  have e := hr 0 h0 0 (B (l[0].data[0]'(by omega))) (by rw [Sec.data_at hk (by omega), List.getElem?_map, List.getElem?_eq_getElem (by omega)]; rfl)
  rw [Bk.cell hb] at e
  exact hn _ _ e _ rfl
theorem RdC_apart {w : World} {a : Addr} {l : List Wri} {p t : Nat} {cs : Array Value} (h : RdC w (some a) l) (hl : l ≠ []) (hok : ∀ x ∈ l, x.ok) (hb : Bk w p cs t) (hn : ∀ (j : Nat) (x : Value), cs[j]? = some x → ∀ v : UInt8, x ≠ B v) : a.block ≠ p := by
  rintro rfl
  have h0 : 0 < l.length := List.length_pos_iff.2 hl
  obtain ⟨b, o, e0, -, hr⟩ := RdG.form h h0 Wri.ps
  obtain rfl := Option.some.inj e0
  have h1 := (hok _ (List.getElem_mem h0)).len
  have e := hr 0 h0 1 (B (l[0].data[0]'(by omega))) (by rw [Wri.data_at, List.getElem?_map, List.getElem?_eq_getElem (by omega)]; rfl)
  rw [Bk.cell hb] at e
  exact hn _ _ e _ rfl
theorem DV_past {w w1 : World} {d : Dk} {sa : Option Addr} {sc : Nat} {ca : Option Addr} {cc : Nat} (h : DV w d sa sc ca cc) (hok : d.ok) {p t : Nat} {cs : Array Value} (f : Fr (fun i => i = p) w w1) (hb : Bk w p cs t) (hn : ∀ (j : Nat) (x : Value), cs[j]? = some x → ∀ v : UInt8, x ≠ B v) : DV w1 d sa sc ca cc :=
  ⟨RdG.later h.rs f (fun a e hl => by subst e; exact RdS_apart h.rs hl hok.s hb hn), RdG.later h.rc f (fun a e hl => by subst e; exact RdC_apart h.rc hl hok.c hb hn), h.sn, h.sm, h.cn, h.cm⟩
theorem DAt_past {w w1 : World} {q : Nat} {d : Dk} {sa : Option Addr} {sc : Nat} {ca : Option Addr} {cc : Nat} (h : DAt w q d sa sc ca cc) (hok : d.ok) {p t : Nat} {cs : Array Value} (f : Fr (fun i => i = p) w w1) (hb : Bk w p cs t) (hn : ∀ (j : Nat) (x : Value), cs[j]? = some x → ∀ v : UInt8, x ≠ B v) (hne : q ≠ p) : DAt w1 q d sa sc ca cc :=
  ⟨f.keep h.blk hne, DV_past h.v hok f hb hn⟩
theorem rc_no (g : Int) (a : Option Addr) (n c : Nat) : ∀ (j : Nat) (x : Value), (RC g (.slice a n c))[j]? = some x → ∀ v : UInt8, x ≠ B v := by
  intro j x hj v
  rcases (show j = 0 ∨ j = 1 ∨ 2 ≤ j by omega) with rfl | rfl | h2
  · have e : Value.int .i64 g = x := Option.some.inj hj
    rw [← e]; simp [B]
  · have e : Value.slice a n c = x := Option.some.inj hj
    rw [← e]; simp [B]
  · rw [Array.getElem?_eq_none (show (RC g (.slice a n c)).size ≤ j from h2)] at hj; cases hj
theorem rv_nil (W : World) (g : Int) : RV W (⟨g, []⟩ : Rm) none 0 := ⟨RdG.nil _ _, Nat.le_refl _, by omega⟩
theorem built_rc (x : Int) : Tryd.prog.built 32 [(0, .int .i64 x), (1, (.slice none 0 0))] = some (RC x (.slice none 0 0)) := by kernel_rfl
theorem built_pr (x y : Int) : Tryd.prog.built 98 [(0, .int .i64 x), (1, .int .i64 y)] = some (PR (x, y)).toArray := by kernel_rfl
set_option maxHeartbeats 2000000 in
set_option maxRecDepth 100000 in
theorem clone_nil (w : World) : Calls Tryd.prog 45 #[(.slice none 0 0)] w fun e w' => e = .returned (.slice none 0 0) ∧ w' = w := by
  have hes := @Lib.run_eql_slice_nil Tryd.prog
  go_enter Tryd.func45, Tryd.ntmps45
  go_wp2
  go_ret
  exact ⟨rfl, rfl⟩

set_option maxHeartbeats 2000000 in
set_option maxRecDepth 100000 in
theorem first_calls (p r : Nat) (d : Dk) (sa : Option Addr) (sc : Nat) (ca : Option Addr) (cc : Nat) (g n to : Int) (b : List UInt8) (d2 d4 : Dk) (w : World) (hok : d.ok) (hv : DAt w p d sa sc ca cc) (hb : b.length = 128) (hR : Bk w r (RC g (.slice none 0 0)) 32) (hrp : r ≠ p) (hsh : Sh w) (hn : (Lit.int .i64 n).wf = true) (hto : (Lit.int .i64 to).wf = true) (hg : 0 ≤ g ∧ g ≤ 1000) (hC : d.C.length ≤ 900) (hS : half (d.S.length : Int) ≠ 0)
    (h1 : askedB d (⟨g, []⟩ : Rm) n = true) (h2 : writeE d n = 2) (h3 : spareR (⟨g, []⟩ : Rm) b 20 (2 * half (d.S.length : Int)) (writeD d n b) = (to, 0, d2)) (h3o : d2.ok) (h3s : d2.S.length = d.S.length) (h4 : flushE d2 = 0) (h4o : (flushD d2).ok) (h4s : (flushD d2).S.length = d.S.length) (h4c : (flushD d2).C.length ≤ 2000) (h5 : keepX (flushD d2) (⟨g + 1, [(n, to)]⟩ : Rm) = (0, d4)) (h5o : d4.ok) :
    Calls Tryd.prog 19 #[.pointer (some ⟨p, 0, none⟩), .pointer (some ⟨r, 0, none⟩), .int .i64 n, .agg (b.map B).toArray] w fun e w' => e = .returned (.int .i64 0) ∧ DIn w' p d4 ∧ (∃ g' cap cur, Bk w' r (rval (⟨g + 1, [(n, to)]⟩ : Rm) (some ⟨g', 0, none⟩) cap) 32 ∧ OwnP w' g' cap cur [(n, to)]) ∧ Fr (fun i => i = p ∨ i = r) w w' := by
  have HV := Lib.hid hv
  have HR := Lib.hid hR
  have hpw : p < w.heap.size := Bk.lt hv.blk
  have hrw : r < w.heap.size := Bk.lt hR
  have HB1 : Hid (Bk (w.alloc (.cells (b.map B).toArray 22)) w.heap.size (b.map B).toArray 22) := Lib.hid (Bk.new w _)
  have HF1 : Hid (Fr0 w (w.alloc (.cells (b.map B).toArray 22))) := Lib.hid (Fr.alloc (Fr.refl _ _) _)
  have HR1 := Lib.hid (HF1.out.keep hR (fun h => h))
  have HM : Hid (∀ g : Int, ((⟨g, []⟩ : Rm)).ok ↔ (Lit.int .i64 g).wf = true) := Lib.hid (fun g => ⟨fun h => h.g, fun h => ⟨h, fun x hx => by cases hx⟩⟩)
  have hgw : (Lit.int .i64 g).wf = true := by simp [Lit.wf, IntKind.min, IntKind.max, IntKind.signed, IntKind.bits]; omega
  have hg1w : (Lit.int .i64 (g + 1)).wf = true := by simp [Lit.wf, IntKind.min, IntKind.max, IntKind.signed, IntKind.bits]; omega
  have HAS : Hid (∀ W, Fr0 w W → Calls Tryd.prog 31 #[.pointer (some ⟨p, 0, none⟩), .agg (RC g (.slice none 0 0)), .int .i64 n] W fun e w' => e = .returned (.bool true) ∧ Fr0 W w') := Lib.hid (fun W f => by have := asked_calls p d sa sc ca cc (⟨g, []⟩ : Rm) none 0 n W hok (hv.keep f) ((HM.out g).2 hgw) (rv_nil W g) hn; rwa [h1] at this)
  have HAT : Hid (∀ W, Calls Tryd.prog 33 #[.agg (RC g (.slice none 0 0)), .int .i64 n] W fun e w' => e = .returned (.int .i64 n) ∧ Fr0 W w') := Lib.hid (fun W => at_calls (⟨g, []⟩ : Rm) none 0 n W (rv_nil W g) (by simp))
  have HPC : Hid (∀ W, Calls Tryd.prog 46 #[.agg (RC g (.slice none 0 0)), .int .i64 n] W fun e w' => e = .returned (.int .i64 (-1)) ∧ Fr0 W w') := Lib.hid (fun W => place_calls (⟨g, []⟩ : Rm) none 0 n W (rv_nil W g) (by simp))
  have HWR : Hid (∀ W, DAt W p d sa sc ca cc → Calls Tryd.prog 36 #[.pointer (some ⟨p, 0, none⟩), .int .i64 n, .agg (b.map B).toArray] W fun e w' => e = .returned (.int .i64 2) ∧ Now W w' p (writeD d n b)) := Lib.hid (fun W h => by have := DiskWrite.write_calls p n b d sa sc ca cc W hok h hb (by omega) hn; rwa [h2] at this)
  have HO1 := Lib.hid (writeD_ok hok hb hn)
  have HSR : Hid (∀ W s1 n1 c1 k1, DAt W p (writeD d n b) s1 n1 c1 k1 → Calls Tryd.prog 44 #[.pointer (some ⟨p, 0, none⟩), .agg (RC g (.slice none 0 0)), .agg (b.map B).toArray] W fun e w' => e = .returned (.tuple #[.int .i64 to, .int .i64 0]) ∧ Now W w' p d2) := Lib.hid (fun W s1 n1 c1 k1 h => by
    have := spare_calls p (writeD d n b) s1 n1 c1 k1 (⟨g, []⟩ : Rm) none 0 b W HO1.out h ((HM.out g).2 hgw) (rv_nil W g) (by simp) hb (Nat.le_trans (writeD_C d n b) (by omega)) (by rw [writeD_S]; exact hS)
    rw [writeD_S, h3] at this
    exact this)
  have HFL : Hid (∀ W s1 n1 c1 k1, DAt W p d2 s1 n1 c1 k1 → Calls Tryd.prog 8 #[.pointer (some ⟨p, 0, none⟩)] W fun e w' => e = .returned (.int .i64 0) ∧ Now W w' p (flushD d2)) := Lib.hid (fun W s1 n1 c1 k1 h => by have := DiskFlush.flush_calls p d2 s1 n1 c1 k1 W h3o h; rwa [h4] at this)
  have HMO : Hid (((⟨g + 1, [(n, to)]⟩ : Rm)).ok) := Lib.hid ⟨hg1w, fun x hx => by simp only [List.mem_cons, List.not_mem_nil, or_false] at hx; subst hx; exact ⟨hn, hto⟩⟩
  have HKE : Hid (∀ W s1 n1 c1 k1 a c, Sh W → DAt W p (flushD d2) s1 n1 c1 k1 → RV W (⟨g + 1, [(n, to)]⟩ : Rm) a c → Calls Tryd.prog 47 #[.pointer (some ⟨p, 0, none⟩), .agg (RC (g + 1) (.slice a 1 c))] W fun e w' => e = .returned (.int .i64 0) ∧ Now W w' p d4) := Lib.hid (fun W s1 n1 c1 k1 a c hsh h hr => by
    have := keep_calls p (flushD d2) s1 n1 c1 k1 (⟨g + 1, [(n, to)]⟩ : Rm) a c W h4o h HMO.out hr hsh h4c (by rw [h4s]; exact hS)
    rw [h5] at this
    exact this)
  have HSH := Lib.hid hsh
  have HDO := Lib.hid h5o
  have HIB := Lib.hid (info_l hb)
  have HIN : Hid (∀ x y, (Tryd.prog.info? 32).map (·.size) = some (RC x y).size) := Lib.hid (fun _ _ => info_r _ _)
  have hzr := zero_r
  clear hok hv hR hsh h1 h2 h3 h3o h3s h4 h4o h4s h4c h5 hS hb hn hto
  have q0 : w.cell? ⟨r, 0, none⟩ = some (.int .i64 g) := Bk.cell HR.out 0
  have q1 : w.cell? ⟨r, 1, none⟩ = some (.slice none 0 0) := Bk.cell HR.out 1
  go_enter Tryd.func19, Tryd.ntmps19
  go_wp2_with (first | ((with_reducible show wpList _ _ _ ({ dst := _, op := Op.load 32 _, type := _, pos := _, after := _, guard := _ } :: _) _ _); refine wpList_load_row_g (by rfl) 32 _ rfl r rfl 32 (RC g (.slice none 0 0)) (0, 0) _ HR1.out Tryd.underlying32 rfl (HIN.out _ _) ?_) | (go_at_call 31; (with_reducible refine (HAS.out _ HF1.out).mono ?_); rintro e w2 ⟨rfl, hf2⟩; have HF2 := Lib.hid (HF1.out.then0 hf2); have HB2 := Lib.hid (hf2.keep HB1.out (fun h => h)); have HR2 := Lib.hid (hf2.keep HR1.out (fun h => h)); clear hf2))
  refine wp_region_noPanic ?_
  refine wp_region_held_drew (S := (fun W : World => Bk W w.heap.size (b.map B).toArray 22 ∧ Bk W r (RC g (.slice none 0 0)) 32)) (by kernel_rfl) (⟨HB2.out, HR2.out⟩) (fun hHeld0 => ?_)
  refine tk0 (i := 0) (v := .pointer (some ⟨p, 0, none⟩)) rfl hHeld0 ?_
  simp only [Act.put, zA, zB, zC, zD, zE, zF]
  refine tk0 (i := 1) (v := .pointer (some ⟨r, 0, none⟩)) rfl hHeld0 ?_
  simp only [Act.put, zA, zB, zC, zD, zE, zF]
  refine tk0 (i := 2) (v := .pointer (some ⟨r, 0, none⟩)) rfl hHeld0 ?_
  simp only [Act.put, zA, zB, zC, zD, zE, zF]
  refine tk (i := 3) (v := .agg (RC g (.slice none 0 0))) rfl (yields_row (by kernel_rfl) 32 _ rfl (r) rfl 32 (RC g (.slice none 0 0)) (0, 0) _ (fun W h => h.2) Tryd.underlying32 rfl (HIN.out _ _)) hHeld0 ?_
  simp only [Act.put, zA, zB, zC, zD, zE, zF]
  refine tk0 (i := 4) (v := .int .i64 n) rfl hHeld0 ?_
  simp only [Act.put, zA, zB, zC, zD, zE, zF]
  refine tk (i := 6) (v := .agg (b.map B).toArray) rfl (yields_row (by kernel_rfl) 22 _ rfl (w.heap.size) rfl 22 (b.map B).toArray (0, 0) _ (fun W h => h.1) Tryd.underlying22 rfl HIB.out) hHeld0 ?_
  simp only [Act.put, zA, zB, zC, zD, zE, zF]
  change wpAnyH _ _ _ _ _ 3 #[true, true, true, true, true, false, true, false, false] _ _
  refine wpAnyH_ready (rs := [5]) (by kernel_rfl) (by simp) ?_
  refine AllReadyH.cons rfl (fun K hK => ?_) AllReadyH.nil
  simp only [zA, zB, zC]
  refine (if_pos (by kernel_rfl)).mpr ?_
  go_wp2_with fail
  refine (HAT.out _).mono ?_
  rintro e wx0 ⟨rfl, hfx0⟩
  dsimp only
  have HF3 : Hid (Fr0 w wx0) := Lib.hid ((Fr.drew HF2.out).then0 hfx0)
  refine hK.out _ _ (⟨hfx0.keep (hHeld0).1 (fun h => h), hfx0.keep (hHeld0).2 (fun h => h)⟩) (fun hHeld1 => ?_)
  clear hK K hHeld0
  change wpAnyH _ _ _ _ _ 2 #[true, true, true, true, true, true, true, false, false] _ _
  refine wpAnyH_ready (rs := [7]) (by kernel_rfl) (by simp) ?_
  refine AllReadyH.cons rfl (fun K hK => ?_) AllReadyH.nil
  simp only [zA, zB, zC]
  refine (if_pos (by kernel_rfl)).mpr ?_
  go_wp2_with fail
  refine (HWR.out _ (HV.out.keep HF3.out)).mono ?_
  rintro e wx1 ⟨rfl, ⟨s4, n4, c4, m4, hv4⟩, hfx1⟩
  dsimp only
  have HV4 := Lib.hid hv4
  have HF4 : Hid (Fr (fun i => i = p) w wx1) := Lib.hid ((HF3.out.weaken (fun _ _ h => h.elim)).trans hfx1)
  have HW4 : Hid (wx1 = wx1) := Lib.hid rfl
  clear hv4
  refine hK.out _ _ (⟨hfx1.keep (hHeld1).1 (by omega), hfx1.keep (hHeld1).2 hrp⟩) (fun hHeld2 => ?_)
  clear hK K hHeld1
  refine tk0 (i := 8) (v := .int .i64 2) rfl hHeld2 ?_
  simp only [Act.put, zA, zB, zC, zD, zE, zF]
  change wpAnyH _ _ _ _ _ 0 #[true, true, true, true, true, true, true, true, true] _ _
  refine wpAnyH_done (by kernel_rfl) ?_ _
  refine NoPanic.normal ?_
  have HEND := Lib.hid hHeld2
  clear hHeld2
  go_wp2
  generalize wx1 = w4 at *
  have HE4 := HEND
  clear HEND
  refine wp_region_noPanic ?_
  refine wp_region_held_drew (S := (fun W : World => Bk W w.heap.size (b.map B).toArray 22 ∧ Bk W r (RC g (.slice none 0 0)) 32)) (by kernel_rfl) (⟨HE4.out.1, HE4.out.2⟩) (fun hHeld0 => ?_)
  refine tk0 (i := 0) (v := .pointer (some ⟨p, 0, none⟩)) rfl hHeld0 ?_
  simp only [Act.put, zA, zB, zC, zD, zE, zF]
  refine tk0 (i := 1) (v := .pointer (some ⟨r, 0, none⟩)) rfl hHeld0 ?_
  simp only [Act.put, zA, zB, zC, zD, zE, zF]
  refine tk0 (i := 2) (v := .pointer (some ⟨r, 0, none⟩)) rfl hHeld0 ?_
  simp only [Act.put, zA, zB, zC, zD, zE, zF]
  refine tk (i := 3) (v := .agg (RC g (.slice none 0 0))) rfl (yields_row (by kernel_rfl) 32 _ rfl (r) rfl 32 (RC g (.slice none 0 0)) (0, 0) _ (fun W h => h.2) Tryd.underlying32 rfl (HIN.out _ _)) hHeld0 ?_
  simp only [Act.put, zA, zB, zC, zD, zE, zF]
  refine tk (i := 4) (v := .agg (b.map B).toArray) rfl (yields_row (by kernel_rfl) 22 _ rfl (w.heap.size) rfl 22 (b.map B).toArray (0, 0) _ (fun W h => h.1) Tryd.underlying22 rfl HIB.out) hHeld0 ?_
  simp only [Act.put, zA, zB, zC, zD, zE, zF]
  change wpAnyH _ _ _ _ _ 6 #[true, true, true, true, true, false, false, false, false, false, false] _ _
  refine wpAnyH_ready (rs := [5]) (by kernel_rfl) (by simp) ?_
  refine AllReadyH.cons rfl (fun K hK => ?_) AllReadyH.nil
  simp only [zA, zB, zC]
  refine (if_pos (by kernel_rfl)).mpr ?_
  go_wp2_with fail
  refine (HSR.out _ _ _ _ _ (HV4.out.keep (Fr.drew (Fr.refl _ _)))).mono ?_
  rintro e wx0 ⟨rfl, ⟨s5, n5, c5, m5, hv5⟩, hfx0⟩
  dsimp only
  have HV5 := Lib.hid hv5
  have HF5 : Hid (Fr (fun i => i = p) w wx0) := Lib.hid ((Fr.drew HF4.out).trans hfx0)
  clear hv5
  refine hK.out _ _ (⟨hfx0.keep (hHeld0).1 (by omega), hfx0.keep (hHeld0).2 hrp⟩) (fun hHeld1 => ?_)
  clear hK K hHeld0
  refine tk0 (i := 6) (v := .tuple #[.int .i64 to, .int .i64 0]) rfl hHeld1 ?_
  simp only [Act.put, zA, zB, zC, zD, zE, zF]
  refine tk (i := 7) (v := .int .i64 to) rfl (Or.inl ⟨by kernel_rfl, fun w hSw => by go_simp⟩) hHeld1 ?_
  simp only [Act.put, zA, zB, zC, zD, zE, zF]
  refine tk (i := 8) (v := .int .i64 0) rfl (Or.inl ⟨by kernel_rfl, fun w hSw => by go_simp⟩) hHeld1 ?_
  simp only [Act.put, zA, zB, zC, zD, zE, zF]
  refine tk0 (i := 9) (v := .int .i64 to) rfl hHeld1 ?_
  simp only [Act.put, zA, zB, zC, zD, zE, zF]
  refine tk0 (i := 10) (v := .int .i64 0) rfl hHeld1 ?_
  simp only [Act.put, zA, zB, zC, zD, zE, zF]
  change wpAnyH _ _ _ _ _ 0 #[true, true, true, true, true, true, true, true, true, true, true] _ _
  refine wpAnyH_done (by kernel_rfl) ?_ _
  refine NoPanic.normal ?_
  have HEND := Lib.hid hHeld1
  clear hHeld1
  go_wp2
  generalize wx0 = w5 at *
  have HE5 := HEND
  clear HEND HV4 HF4 HE4
  have HF50 : Hid (Fr0 w5 w5.drew) := Lib.hid (Fr.drew (Fr.refl _ _))
  have c5a : Hid (∀ W, Bk W r (RC g (.slice none 0 0)) 32 → W.cell? ⟨r, 0, none⟩ = some (.int .i64 g)) := Lib.hid (fun W h => Bk.cell h 0)
  have c5b : Hid (∀ W, Bk W r (RC g (.slice none 0 0)) 32 → W.cell? ⟨r, 1, none⟩ = some (.slice none 0 0)) := Lib.hid (fun W h => Bk.cell h 1)
  refine wp_region_noPanic ?_
  refine wp_region_held_drew (S := (fun W : World => Bk W w.heap.size (b.map B).toArray 22 ∧ Bk W r (RC g (.slice none 0 0)) 32 ∧ Fr0 w5 W)) (by kernel_rfl) (⟨HE5.out.1, HE5.out.2, HF50.out⟩) (fun hHeld0 => ?_)
  generalize w5.drew = wd at *
  refine tk0 (i := 0) (v := .pointer (some ⟨r, 0, none⟩)) rfl hHeld0 ?_
  simp only [Act.put, zA, zB, zC, zD, zE, zF]
  refine tk0 (i := 1) (v := .pointer (some ⟨r, 0, none⟩)) rfl hHeld0 ?_
  simp only [Act.put, zA, zB, zC, zD, zE, zF]
  refine tk0 (i := 2) (v := .pointer (some ⟨r, 0, none⟩)) rfl hHeld0 ?_
  simp only [Act.put, zA, zB, zC, zD, zE, zF]
  refine tk (i := 3) (v := .int .i64 g) rfl (Or.inl ⟨by kernel_rfl, fun w hSw => by have hcl := (fun _ h => c5a.out _ h.2.1) w hSw; go_simp⟩) hHeld0 ?_
  simp only [Act.put, zA, zB, zC, zD, zE, zF]
  refine tk (i := 4) (v := .int .i64 (g + 1)) rfl (Or.inl ⟨by kernel_rfl, fun w hSw => by go_simp; rw [IntKind.wrap_i64]; omega⟩) hHeld0 ?_
  simp only [Act.put, zA, zB, zC, zD, zE, zF]
  refine tk0 (i := 5) (v := .pointer (some ⟨r, 0, none⟩)) rfl hHeld0 ?_
  simp only [Act.put, zA, zB, zC, zD, zE, zF]
  refine tk0 (i := 6) (v := .pointer (some ⟨r, 0, none⟩)) rfl hHeld0 ?_
  simp only [Act.put, zA, zB, zC, zD, zE, zF]
  refine tk0 (i := 7) (v := .pointer (some ⟨r, 1, none⟩)) rfl hHeld0 ?_
  simp only [Act.put, zA, zB, zC, zD, zE, zF]
  refine tk (i := 8) (v := (.slice none 0 0)) rfl (Or.inl ⟨by kernel_rfl, fun w hSw => by have hcl := (fun _ h => c5b.out _ h.2.1) w hSw; go_simp⟩) hHeld0 ?_
  simp only [Act.put, zA, zB, zC, zD, zE, zF]
  change wpAnyH _ _ _ _ _ 4 #[true, true, true, true, true, true, true, true, true, false, false, false, false] _ _
  refine wpAnyH_ready (rs := [9, 11]) (by kernel_rfl) (by simp) ?_
  refine AllReadyH.cons rfl (fun K hK => ?_) (AllReadyH.cons rfl (fun K hK => ?_) (AllReadyH.nil))
  · simp only [zA, zB, zC]
    refine (if_pos (by kernel_rfl)).mpr ?_
    go_wp2_with fail
    refine (clone_nil _).mono ?_
    rintro e wq ⟨rfl, rfl⟩
    dsimp only
    refine hK.out _ _ (hHeld0) (fun hHeld1 => ?_)
    clear hK K hHeld0
    refine tk (i := 10) (v := .agg (RC (g + 1) (.slice none 0 0))) rfl (Or.inl ⟨by kernel_rfl, fun w hSw => GApp.run_build_op 32 _ rfl [(0, .int .i64 (g + 1)), (1, (.slice none 0 0))] (by simp [Act.eval, Act.put]) _ (built_rc _)⟩) hHeld1 ?_
    simp only [Act.put, zA, zB, zC, zD, zE, zF]
    change wpAnyH _ _ _ _ _ 2 #[true, true, true, true, true, true, true, true, true, true, true, false, false] _ _
    refine wpAnyH_ready (rs := [11]) (by kernel_rfl) (by simp) ?_
    refine AllReadyH.cons rfl (fun K hK => ?_) AllReadyH.nil
    simp only [zA, zB, zC]
    refine (if_pos (by kernel_rfl)).mpr ?_
    have hk0 := hHeld1
    go_wp2_with fail
    refine hK.out _ _ (⟨Bk.alloc (hHeld1).1 _, Bk.alloc (hHeld1).2.1 _, Fr.alloc (hHeld1).2.2 _⟩) (fun hHeld2 => ?_)
    clear hK K hHeld1
    have HGA : Hid (Bk (wq.alloc (.cells RZ 32)) wq.heap.size RZ 32) := Lib.hid (Bk.new _ _)
    have HGE : Hid (w5.heap.size ≤ wq.heap.size) := Lib.hid (hk0.2.2.size)
    clear hk0
    generalize (wq.alloc (.cells RZ 32)) = wa at *
    generalize wq.heap.size = gx at *
    change wpAnyH _ _ _ _ _ 1 #[true, true, true, true, true, true, true, true, true, true, true, true, false] _ _
    refine wpAnyH_ready (rs := [12]) (by kernel_rfl) (by simp) ?_
    refine AllReadyH.cons rfl (fun K hK => ?_) AllReadyH.nil
    simp only [zA, zB, zC]
    refine (if_pos (by kernel_rfl)).mpr ?_
    have hge := HGE.out
    have h5r := Bk.lt HE5.out.2
    have h5b := Bk.lt HE5.out.1
    refine wp_store_row 32 _ _ rfl gx (RC (g + 1) (.slice none 0 0)) rfl rfl 32 RZ HGA.out (HIN.out _ _) rfl (RC_all _ _ _ _) ?_
    refine hK.out _ _ (⟨ArrKit.Bk.rowOther (hHeld2).1 _ (by omega), ArrKit.Bk.rowOther (hHeld2).2.1 _ (by omega), ArrKit.Fr.row (hHeld2).2.2 _ _ (.inl (by omega))⟩) (fun hHeld3 => ?_)
    clear hK K hHeld2
    have HGX6 : Hid (Bk (wa.setRow gx (RC (g + 1) (.slice none 0 0))) gx (RC (g + 1) (.slice none 0 0)) 32) := Lib.hid (ArrKit.Bk.row HGA.out _)
    generalize wa.setRow gx (RC (g + 1) (.slice none 0 0)) = w6 at *
    change wpAnyH _ _ _ _ _ 0 #[true, true, true, true, true, true, true, true, true, true, true, true, true] _ _
    refine wpAnyH_done (by kernel_rfl) ?_ _
    refine NoPanic.normal ?_
    have HEND := Lib.hid hHeld3
    clear hHeld3
    obtain ⟨i1, hy0, hz0, hz1, hz2⟩ := info_parts infoPr
    have HJ : Hid (Tryd.prog.info? 98 = some i1 ∧ i1.zero = some (.agg PZ2) ∧ i1.size = 2 ∧ i1.bytes = 16) := Lib.hid ⟨hy0, hz0, hz1, hz2⟩
    clear hy0 hz0 hz1 hz2
    have hgxp : gx ≠ p := by have := HGE.out; have := Bk.lt HE5.out.1; omega
    have h5w : w.heap.size < w5.heap.size := Bk.lt HE5.out.1
    have HSN : Hid (¬ 1 = p ∧ ¬ 0 = p) := Lib.hid (by have := HSH.out.ne HV.out.blk (by show (4 : Nat) ≠ 8; decide) (by show (4 : Nat) ≠ 64; decide); exact ⟨fun e => this.1 e.symm, fun e => this.2 e.symm⟩)
    go_wp2_with (first | ((with_reducible show wpList _ _ _ ({ dst := _, op := Op.load 32 _, type := _, pos := _, after := _, guard := _ } :: _) _ _); refine wpList_load_row_g (by rfl) 32 _ rfl r rfl 32 (RC g (.slice none 0 0)) (0, 0) _ HEND.out.2.1 Tryd.underlying32 rfl (HIN.out _ _) ?_) | (go_at_call 46; (with_reducible refine (HPC.out _).mono ?_); rintro e w7 ⟨rfl, hf7⟩; have HGX7 := Lib.hid (hf7.keep HGX6.out (fun h => h)); have HF57 := Lib.hid (HEND.out.2.2.then0 hf7); have HR7 := Lib.hid (hf7.keep HEND.out.2.1 (fun h => h)); have gx1 : w7.cell? ⟨gx, 1, none⟩ = some (.slice none 0 0) := Bk.cell HGX7.out 1; clear hf7) | ((with_reducible show wpList _ _ _ ({ dst := _, op := Op.build 98 _, type := _, pos := _, after := _, guard := _ } :: _) _ _); refine build_ev rfl 98 _ rfl [(0, .int .i64 n), (1, .int .i64 to)] (by simp [Act.eval, Act.put]) (PR (n, to)).toArray (built_pr _ _) ?_) | ((with_reducible show wpList _ _ _ ({ dst := _, op := Op.buildSlice 30 1 _, type := _, pos := _, after := _, guard := _ } :: _) _ _); refine wpList_plain rfl fun K hK => ?_; refine GApp.wp_buildSlice_one 30 _ rfl 98 i1 _ 2 Tryd.underlying30 HJ.out.1 HJ.out.2.1 HJ.out.2.2.1 (by decide) (by decide) (PR (n, to)).toArray rfl rfl ?_; refine hK _ _ ?_) | (at_builtin; refine wpList_plain rfl fun K hK => ?_; obtain ⟨g8, cap8, cur8, w8, hr8, hg8, ho8, hf8⟩ := GApp.run_append_one (P := Tryd.prog) (f := PR) (k := 2) (e := 98) (w7.alloc (.cells (PR (n, to)).toArray 98)) 30 30 i1 _ 16 Tryd.underlying30 HJ.out.1 HJ.out.2.1 HJ.out.2.2.1 HJ.out.2.2.2 rfl (by decide) none 0 [] rfl (RdG.nil _ _) (fun _ h => by cases h) w7.heap.size 1 (n, to) rfl (Bk.new w7 _) (by omega) (by omega) (fun _ => rfl); refine GApp.wp_append_run (.tmp 67) (.tmp 71) 30 (by rfl) _ _ _ (by rfl) (by rfl) hr8 ?_; refine hK _ _ ?_; have HGX8 := Lib.hid (hf8.keep (Bk.alloc HGX7.out _) (fun h => h)); have HR8 := Lib.hid (hf8.keep (Bk.alloc HR7.out _) (fun h => h)); have HF58 := Lib.hid ((Fr.alloc HF57.out _).then0 hf8); have HO8 := Lib.hid ho8; have HG8 : Hid (w5.heap.size ≤ g8) := Lib.hid (by have h1 := HF57.out.size; simp at hg8; omega); have HNX : Hid (g8 ≠ gx) := Lib.hid (by have h2 := Bk.lt HGX7.out; simp at hg8; omega); have gx8 : w8.cell? ⟨gx, 1, none⟩ = some (.slice none 0 0) := Bk.cell HGX8.out 1; have fx8 := Bk.free HGX8.out 1; have HGX9 : Hid (Bk (w8.setCell ⟨gx, 1, none⟩ (.slice (some ⟨g8, 0, none⟩) 1 cap8)) gx (RC (g + 1) (.slice (some ⟨g8, 0, none⟩) 1 cap8)) 32) := Lib.hid (Bk.set HGX8.out 1 (.slice (some ⟨g8, 0, none⟩) 1 cap8)); have HR9 : Hid (Bk (w8.setCell ⟨gx, 1, none⟩ (.slice (some ⟨g8, 0, none⟩) 1 cap8)) r (RC g (.slice none 0 0)) 32) := Lib.hid (Bk.setOther HR8.out _ _ (by show r ≠ gx; have := HGE.out; omega)); have HO9 : Hid (OwnP (w8.setCell ⟨gx, 1, none⟩ (.slice (some ⟨g8, 0, none⟩) 1 cap8)) g8 cap8 cur8 [(n, to)]) := Lib.hid (OwnG.keep HO8.out (Fr.set1 w8 gx 1 (.slice (some ⟨g8, 0, none⟩) 1 cap8)) HNX.out); have HF59 : Hid (Fr0 w5 (w8.setCell ⟨gx, 1, none⟩ (.slice (some ⟨g8, 0, none⟩) 1 cap8))) := Lib.hid (Fr.set HF58.out _ _ (.inl (by show w5.heap.size ≤ gx; exact HGE.out))); clear hr8 hg8 ho8 hf8) | (go_at_call 8; (with_reducible refine (HFL.out _ _ _ _ _ (HV5.out.keep HF59.out)).mono ?_); rintro e w10 ⟨rfl, ⟨sA, nA, cA, mA, hvA⟩, hf10⟩; have HV10 := Lib.hid hvA; have HGX10 := Lib.hid (hf10.keep HGX9.out (by omega)); have HR10 := Lib.hid (hf10.keep HR9.out hrp); have HO10 := Lib.hid (OwnG.keep HO9.out hf10 (by have := HG8.out; omega)); have HRV10 : Hid (RV w10 (⟨g + 1, [(n, to)]⟩ : Rm) (some ⟨g8, 0, none⟩) cap8) := Lib.hid ⟨OwnG.rd HO10.out, HO10.out.room, HO10.out.max⟩; have HF10 : Hid (Fr (fun i => i = p) w w10) := Lib.hid ((HF5.out.trans (HF59.out.weaken (fun _ _ h => h.elim))).trans hf10); clear hvA hf10) | (go_at_call 47; (with_reducible refine (HKE.out _ _ _ _ _ (some ⟨g8, 0, none⟩) cap8 (HSH.out.keep HF10.out HSN.out.1 HSN.out.2) HV10.out HRV10.out).mono ?_); rintro e w11 ⟨rfl, ⟨sB, nB, cB, mB, hvB⟩, hf11⟩; have HV11 := Lib.hid hvB; have HGX11 := Lib.hid (hf11.keep HGX10.out (by omega)); have HR11 := Lib.hid (hf11.keep HR10.out hrp); have HO11 := Lib.hid (OwnG.keep HO10.out hf11 (by have := HG8.out; omega)); have HF11 : Hid (Fr (fun i => i = p) w w11) := Lib.hid (HF10.out.trans hf11); clear hvB hf11) | ((with_reducible show wpList _ _ _ ({ dst := _, op := Op.load 32 _, type := _, pos := _, after := _, guard := _ } :: _) _ _); refine wpList_load_row_g (by rfl) 32 _ rfl gx rfl 32 (RC (g + 1) (.slice (some ⟨g8, 0, none⟩) 1 cap8)) (0, 0) _ HGX11.out Tryd.underlying32 rfl (HIN.out _ _) ?_) | ((with_reducible show wpList _ _ _ ({ dst := _, op := Op.load 32 _, type := _, pos := _, after := _, guard := _ } :: _) _ _); refine wpList_load_row_g (by rfl) 32 _ rfl gx rfl 32 (RC (g + 1) (.slice (some ⟨g8, 0, none⟩) 1 cap8)) (0, 0) _ HGX10.out Tryd.underlying32 rfl (HIN.out _ _) ?_) | ((with_reducible show wpList _ _ _ ({ dst := _, op := Op.store 32 _ _, type := _, pos := _, after := _, guard := _ } :: _) _ _); refine wpList_store_row rfl 32 _ _ rfl r (RC (g + 1) (.slice (some ⟨g8, 0, none⟩) 1 cap8)) rfl rfl 32 (RC g (.slice none 0 0)) HR11.out (HIN.out _ _) rfl (RC_all _ _ _ _) ?_))
    go_ret
    have hfr : Fr (fun i => i = p ∨ i = r) w w11 := HF11.out.weaken (fun _ _ h => .inl h)
    have h12 : Fr (fun i => i = r) w11 (w11.setRow r (RC (g + 1) (.slice (some ⟨g8, 0, none⟩) 1 cap8))) := Fr.row1 _ r _
    refine ⟨rfl, ⟨_, _, _, _, DAt_past HV11.out HDO.out h12 HR11.out (rc_no _ _ _ _) (fun e => hrp e.symm)⟩, ⟨g8, cap8, cur8, ArrKit.Bk.row HR11.out _, OwnG.keep HO11.out h12 (by have := HG8.out; omega)⟩, hfr.then h12 (fun i _ e => .inr e)⟩
  · simp only [zA, zB, zC]
    refine (if_pos (by kernel_rfl)).mpr ?_
    have hk0 := hHeld0
    go_wp2_with fail
    refine hK.out _ _ (⟨Bk.alloc (hHeld0).1 _, Bk.alloc (hHeld0).2.1 _, Fr.alloc (hHeld0).2.2 _⟩) (fun hHeld1 => ?_)
    clear hK K hHeld0
    have HGA : Hid (Bk (wd.alloc (.cells RZ 32)) wd.heap.size RZ 32) := Lib.hid (Bk.new _ _)
    have HGE : Hid (w5.heap.size ≤ wd.heap.size) := Lib.hid (hk0.2.2.size)
    clear hk0
    generalize (wd.alloc (.cells RZ 32)) = wa at *
    generalize wd.heap.size = gx at *
    change wpAnyH _ _ _ _ _ 3 #[true, true, true, true, true, true, true, true, true, false, false, true, false] _ _
    refine wpAnyH_ready (rs := [9]) (by kernel_rfl) (by simp) ?_
    refine AllReadyH.cons rfl (fun K hK => ?_) AllReadyH.nil
    simp only [zA, zB, zC]
    refine (if_pos (by kernel_rfl)).mpr ?_
    go_wp2_with fail
    refine (clone_nil _).mono ?_
    rintro e wq ⟨rfl, rfl⟩
    dsimp only
    refine hK.out _ _ (hHeld1) (fun hHeld2 => ?_)
    clear hK K hHeld1
    refine tk (i := 10) (v := .agg (RC (g + 1) (.slice none 0 0))) rfl (Or.inl ⟨by kernel_rfl, fun w hSw => GApp.run_build_op 32 _ rfl [(0, .int .i64 (g + 1)), (1, (.slice none 0 0))] (by simp [Act.eval, Act.put]) _ (built_rc _)⟩) hHeld2 ?_
    simp only [Act.put, zA, zB, zC, zD, zE, zF]
    change wpAnyH _ _ _ _ _ 1 #[true, true, true, true, true, true, true, true, true, true, true, true, false] _ _
    refine wpAnyH_ready (rs := [12]) (by kernel_rfl) (by simp) ?_
    refine AllReadyH.cons rfl (fun K hK => ?_) AllReadyH.nil
    simp only [zA, zB, zC]
    refine (if_pos (by kernel_rfl)).mpr ?_
    have hge := HGE.out
    have h5r := Bk.lt HE5.out.2
    have h5b := Bk.lt HE5.out.1
    refine wp_store_row 32 _ _ rfl gx (RC (g + 1) (.slice none 0 0)) rfl rfl 32 RZ HGA.out (HIN.out _ _) rfl (RC_all _ _ _ _) ?_
    refine hK.out _ _ (⟨ArrKit.Bk.rowOther (hHeld2).1 _ (by omega), ArrKit.Bk.rowOther (hHeld2).2.1 _ (by omega), ArrKit.Fr.row (hHeld2).2.2 _ _ (.inl (by omega))⟩) (fun hHeld3 => ?_)
    clear hK K hHeld2
    have HGX6 : Hid (Bk (wq.setRow gx (RC (g + 1) (.slice none 0 0))) gx (RC (g + 1) (.slice none 0 0)) 32) := Lib.hid (ArrKit.Bk.row HGA.out _)
    generalize wq.setRow gx (RC (g + 1) (.slice none 0 0)) = w6 at *
    change wpAnyH _ _ _ _ _ 0 #[true, true, true, true, true, true, true, true, true, true, true, true, true] _ _
    refine wpAnyH_done (by kernel_rfl) ?_ _
    refine NoPanic.normal ?_
    have HEND := Lib.hid hHeld3
    clear hHeld3
    obtain ⟨i1, hy0, hz0, hz1, hz2⟩ := info_parts infoPr
    have HJ : Hid (Tryd.prog.info? 98 = some i1 ∧ i1.zero = some (.agg PZ2) ∧ i1.size = 2 ∧ i1.bytes = 16) := Lib.hid ⟨hy0, hz0, hz1, hz2⟩
    clear hy0 hz0 hz1 hz2
    have hgxp : gx ≠ p := by have := HGE.out; have := Bk.lt HE5.out.1; omega
    have h5w : w.heap.size < w5.heap.size := Bk.lt HE5.out.1
    have HSN : Hid (¬ 1 = p ∧ ¬ 0 = p) := Lib.hid (by have := HSH.out.ne HV.out.blk (by show (4 : Nat) ≠ 8; decide) (by show (4 : Nat) ≠ 64; decide); exact ⟨fun e => this.1 e.symm, fun e => this.2 e.symm⟩)
    go_wp2_with (first | ((with_reducible show wpList _ _ _ ({ dst := _, op := Op.load 32 _, type := _, pos := _, after := _, guard := _ } :: _) _ _); refine wpList_load_row_g (by rfl) 32 _ rfl r rfl 32 (RC g (.slice none 0 0)) (0, 0) _ HEND.out.2.1 Tryd.underlying32 rfl (HIN.out _ _) ?_) | (go_at_call 46; (with_reducible refine (HPC.out _).mono ?_); rintro e w7 ⟨rfl, hf7⟩; have HGX7 := Lib.hid (hf7.keep HGX6.out (fun h => h)); have HF57 := Lib.hid (HEND.out.2.2.then0 hf7); have HR7 := Lib.hid (hf7.keep HEND.out.2.1 (fun h => h)); have gx1 : w7.cell? ⟨gx, 1, none⟩ = some (.slice none 0 0) := Bk.cell HGX7.out 1; clear hf7) | ((with_reducible show wpList _ _ _ ({ dst := _, op := Op.build 98 _, type := _, pos := _, after := _, guard := _ } :: _) _ _); refine build_ev rfl 98 _ rfl [(0, .int .i64 n), (1, .int .i64 to)] (by simp [Act.eval, Act.put]) (PR (n, to)).toArray (built_pr _ _) ?_) | ((with_reducible show wpList _ _ _ ({ dst := _, op := Op.buildSlice 30 1 _, type := _, pos := _, after := _, guard := _ } :: _) _ _); refine wpList_plain rfl fun K hK => ?_; refine GApp.wp_buildSlice_one 30 _ rfl 98 i1 _ 2 Tryd.underlying30 HJ.out.1 HJ.out.2.1 HJ.out.2.2.1 (by decide) (by decide) (PR (n, to)).toArray rfl rfl ?_; refine hK _ _ ?_) | (at_builtin; refine wpList_plain rfl fun K hK => ?_; obtain ⟨g8, cap8, cur8, w8, hr8, hg8, ho8, hf8⟩ := GApp.run_append_one (P := Tryd.prog) (f := PR) (k := 2) (e := 98) (w7.alloc (.cells (PR (n, to)).toArray 98)) 30 30 i1 _ 16 Tryd.underlying30 HJ.out.1 HJ.out.2.1 HJ.out.2.2.1 HJ.out.2.2.2 rfl (by decide) none 0 [] rfl (RdG.nil _ _) (fun _ h => by cases h) w7.heap.size 1 (n, to) rfl (Bk.new w7 _) (by omega) (by omega) (fun _ => rfl); refine GApp.wp_append_run (.tmp 67) (.tmp 71) 30 (by rfl) _ _ _ (by rfl) (by rfl) hr8 ?_; refine hK _ _ ?_; have HGX8 := Lib.hid (hf8.keep (Bk.alloc HGX7.out _) (fun h => h)); have HR8 := Lib.hid (hf8.keep (Bk.alloc HR7.out _) (fun h => h)); have HF58 := Lib.hid ((Fr.alloc HF57.out _).then0 hf8); have HO8 := Lib.hid ho8; have HG8 : Hid (w5.heap.size ≤ g8) := Lib.hid (by have h1 := HF57.out.size; simp at hg8; omega); have HNX : Hid (g8 ≠ gx) := Lib.hid (by have h2 := Bk.lt HGX7.out; simp at hg8; omega); have gx8 : w8.cell? ⟨gx, 1, none⟩ = some (.slice none 0 0) := Bk.cell HGX8.out 1; have fx8 := Bk.free HGX8.out 1; have HGX9 : Hid (Bk (w8.setCell ⟨gx, 1, none⟩ (.slice (some ⟨g8, 0, none⟩) 1 cap8)) gx (RC (g + 1) (.slice (some ⟨g8, 0, none⟩) 1 cap8)) 32) := Lib.hid (Bk.set HGX8.out 1 (.slice (some ⟨g8, 0, none⟩) 1 cap8)); have HR9 : Hid (Bk (w8.setCell ⟨gx, 1, none⟩ (.slice (some ⟨g8, 0, none⟩) 1 cap8)) r (RC g (.slice none 0 0)) 32) := Lib.hid (Bk.setOther HR8.out _ _ (by show r ≠ gx; have := HGE.out; omega)); have HO9 : Hid (OwnP (w8.setCell ⟨gx, 1, none⟩ (.slice (some ⟨g8, 0, none⟩) 1 cap8)) g8 cap8 cur8 [(n, to)]) := Lib.hid (OwnG.keep HO8.out (Fr.set1 w8 gx 1 (.slice (some ⟨g8, 0, none⟩) 1 cap8)) HNX.out); have HF59 : Hid (Fr0 w5 (w8.setCell ⟨gx, 1, none⟩ (.slice (some ⟨g8, 0, none⟩) 1 cap8))) := Lib.hid (Fr.set HF58.out _ _ (.inl (by show w5.heap.size ≤ gx; exact HGE.out))); clear hr8 hg8 ho8 hf8) | (go_at_call 8; (with_reducible refine (HFL.out _ _ _ _ _ (HV5.out.keep HF59.out)).mono ?_); rintro e w10 ⟨rfl, ⟨sA, nA, cA, mA, hvA⟩, hf10⟩; have HV10 := Lib.hid hvA; have HGX10 := Lib.hid (hf10.keep HGX9.out (by omega)); have HR10 := Lib.hid (hf10.keep HR9.out hrp); have HO10 := Lib.hid (OwnG.keep HO9.out hf10 (by have := HG8.out; omega)); have HRV10 : Hid (RV w10 (⟨g + 1, [(n, to)]⟩ : Rm) (some ⟨g8, 0, none⟩) cap8) := Lib.hid ⟨OwnG.rd HO10.out, HO10.out.room, HO10.out.max⟩; have HF10 : Hid (Fr (fun i => i = p) w w10) := Lib.hid ((HF5.out.trans (HF59.out.weaken (fun _ _ h => h.elim))).trans hf10); clear hvA hf10) | (go_at_call 47; (with_reducible refine (HKE.out _ _ _ _ _ (some ⟨g8, 0, none⟩) cap8 (HSH.out.keep HF10.out HSN.out.1 HSN.out.2) HV10.out HRV10.out).mono ?_); rintro e w11 ⟨rfl, ⟨sB, nB, cB, mB, hvB⟩, hf11⟩; have HV11 := Lib.hid hvB; have HGX11 := Lib.hid (hf11.keep HGX10.out (by omega)); have HR11 := Lib.hid (hf11.keep HR10.out hrp); have HO11 := Lib.hid (OwnG.keep HO10.out hf11 (by have := HG8.out; omega)); have HF11 : Hid (Fr (fun i => i = p) w w11) := Lib.hid (HF10.out.trans hf11); clear hvB hf11) | ((with_reducible show wpList _ _ _ ({ dst := _, op := Op.load 32 _, type := _, pos := _, after := _, guard := _ } :: _) _ _); refine wpList_load_row_g (by rfl) 32 _ rfl gx rfl 32 (RC (g + 1) (.slice (some ⟨g8, 0, none⟩) 1 cap8)) (0, 0) _ HGX11.out Tryd.underlying32 rfl (HIN.out _ _) ?_) | ((with_reducible show wpList _ _ _ ({ dst := _, op := Op.load 32 _, type := _, pos := _, after := _, guard := _ } :: _) _ _); refine wpList_load_row_g (by rfl) 32 _ rfl gx rfl 32 (RC (g + 1) (.slice (some ⟨g8, 0, none⟩) 1 cap8)) (0, 0) _ HGX10.out Tryd.underlying32 rfl (HIN.out _ _) ?_) | ((with_reducible show wpList _ _ _ ({ dst := _, op := Op.store 32 _ _, type := _, pos := _, after := _, guard := _ } :: _) _ _); refine wpList_store_row rfl 32 _ _ rfl r (RC (g + 1) (.slice (some ⟨g8, 0, none⟩) 1 cap8)) rfl rfl 32 (RC g (.slice none 0 0)) HR11.out (HIN.out _ _) rfl (RC_all _ _ _ _) ?_))
    go_ret
    have hfr : Fr (fun i => i = p ∨ i = r) w w11 := HF11.out.weaken (fun _ _ h => .inl h)
    have h12 : Fr (fun i => i = r) w11 (w11.setRow r (RC (g + 1) (.slice (some ⟨g8, 0, none⟩) 1 cap8))) := Fr.row1 _ r _
    refine ⟨rfl, ⟨_, _, _, _, DAt_past HV11.out HDO.out h12 HR11.out (rc_no _ _ _ _) (fun e => hrp e.symm)⟩, ⟨g8, cap8, cur8, ArrKit.Bk.row HR11.out _, OwnG.keep HO11.out h12 (by have := HG8.out; omega)⟩, hfr.then h12 (fun i _ e => .inr e)⟩


end Go.Proofs.YtmkmpfnadcmcoaaDoor.RmFirst
namespace Go.Proofs.YtmkmpfnadcmcoaaDoor.RmFormat
open Go Go.RowKit Go.Proofs.YtmkmpfnadcmcoaaDoor.K Go.Proofs.YtmkmpfnadcmcoaaDoor.EqKit Go.Proofs.YtmkmpfnadcmcoaaDoor.ArrKit Go.Proofs.YtmkmpfnadcmcoaaDoor.HeldKit Go.Proofs.YtmkmpfnadcmcoaaDoor.GKit Go.Proofs.YtmkmpfnadcmcoaaDoor.GRow Go.Proofs.YtmkmpfnadcmcoaaDoor.DiskKit Go.Proofs.YtmkmpfnadcmcoaaDoor.RmKit Go.Proofs.YtmkmpfnadcmcoaaDoor.MapKit Go.Proofs.YtmkmpfnadcmcoaaDoor.RmRight Go.Proofs.YtmkmpfnadcmcoaaDoor.RmTab Go.Proofs.YtmkmpfnadcmcoaaDoor.RmPut Go.Proofs.YtmkmpfnadcmcoaaDoor.RmAsk Go.Proofs.YtmkmpfnadcmcoaaDoor.RmSame Go.Proofs.YtmkmpfnadcmcoaaDoor.DiskRRead Go.Proofs.YtmkmpfnadcmcoaaDoor.RmRead Go.Proofs.YtmkmpfnadcmcoaaDoor.RmReads Go.Proofs.YtmkmpfnadcmcoaaDoor.DiskAct Go.Proofs.YtmkmpfnadcmcoaaDoor.RmSpare Go.Proofs.YtmkmpfnadcmcoaaDoor.RmKeep Go.Proofs.YtmkmpfnadcmcoaaDoor.RmFirst
theorem built_rz : Tryd.prog.built 32 [] = some RZ := by kernel_rfl
theorem tabB_nil {s : Int} (h : half s ≠ 0) : tabB (⟨0, []⟩ : Rm) s = true := by
  unfold tabB
  rw [decide_eq_true h]
  rfl
set_option maxHeartbeats 2000000 in
set_option maxRecDepth 100000 in
theorem format_calls (p : Nat) (d : Dk) (sa : Option Addr) (sc : Nat) (ca : Option Addr) (cc : Nat) (N : Nat) (w : World) (hok : d.ok) (hv : DAt w p d sa sc ca cc) (hsh : Sh w) (hC : d.C.length ≤ 1000) (hh : hvI d = (N : Int)) (hN : N ≠ 0) (hN2 : N ≤ 2038) (hS : half (d.S.length : Int) ≠ 0) (h1 : writeE d 0 = 0) (h2 : writeE (writeD d 0 (tabL (⟨0, []⟩ : Rm))) (N : Int) = 0) (h3 : flushE (writeD (writeD d 0 (tabL (⟨0, []⟩ : Rm))) (N : Int) (tabL (⟨0, []⟩ : Rm))) = 0) (h4 : (flushD (writeD (writeD d 0 (tabL (⟨0, []⟩ : Rm))) (N : Int) (tabL (⟨0, []⟩ : Rm)))).ok) :
    Calls Tryd.prog 15 #[.pointer (some ⟨p, 0, none⟩)] w fun e w' => e = .returned (.tuple #[.agg RZ, .int .i64 0]) ∧ DIn w' p (flushD (writeD (writeD d 0 (tabL (⟨0, []⟩ : Rm))) (N : Int) (tabL (⟨0, []⟩ : Rm)))) ∧ Fr (fun i => i = p) w w' := by
  have HV := Lib.hid hv
  have hpw : p < w.heap.size := Bk.lt hv.blk
  have HR1 : Hid (Bk (w.alloc (.cells RZ 32)) w.heap.size RZ 32) := Lib.hid (Bk.new w _)
  have HF1 : Hid (Fr0 w (w.alloc (.cells RZ 32))) := Lib.hid (Fr.alloc (Fr.refl _ _) _)
  have HHV : Hid (∀ W, Fr0 w W → Calls Tryd.prog 34 #[.pointer (some ⟨p, 0, none⟩)] W fun e w' => e = .returned (.int .i64 (N : Int)) ∧ Fr0 W w') := Lib.hid (fun W f => by have := halves_calls p d sa sc ca cc W hok (hv.keep f); rwa [hh] at this)
  have htb := tabB_nil hS
  have htl : (tabL (⟨0, []⟩ : Rm)).length = 128 := tabL_len _ (by decide)
  have HPU : Hid (∀ W, Fr0 w W → Calls Tryd.prog 35 #[.agg RZ, .int .i64 (d.S.length : Int)] W fun e w' => e = .returned (.tuple #[.agg ((tabL (⟨0, []⟩ : Rm)).map B).toArray, .int .i64 0]) ∧ Fr0 W w') := Lib.hid (fun W f => by
    have := RmPut.put_calls (⟨0, []⟩ : Rm) none 0 (d.S.length : Int) W ⟨by decide, fun x hx => by cases hx⟩ (rv_nil W 0) (wf_nat (Nat.le_trans hv.v.sn hv.v.sm)) (hsh.keep0 f)
    unfold tabX tabE at this
    rw [if_pos htb, if_pos htb] at this
    exact this)
  have HQ1 : Hid ((Lit.int .i64 (0 : Int)).wf = true) := Lib.hid (by decide)
  have HQ2 : Hid ((Lit.int .i64 (N : Int)).wf = true) := Lib.hid (wf_nat (by omega))
  have HW1 : Hid (∀ W, DAt W p d sa sc ca cc → Calls Tryd.prog 36 #[.pointer (some ⟨p, 0, none⟩), .int .i64 0, .agg ((tabL (⟨0, []⟩ : Rm)).map B).toArray] W fun e w' => e = .returned (.int .i64 0) ∧ Now W w' p (writeD d 0 (tabL (⟨0, []⟩ : Rm)))) := Lib.hid (fun W h => by have := DiskWrite.write_calls p 0 (tabL (⟨0, []⟩ : Rm)) d sa sc ca cc W hok h htl (by omega) HQ1.out; rwa [h1] at this)
  have HO1 := Lib.hid (writeD_ok hok htl HQ1.out)
  have HC1 := Lib.hid (Nat.le_trans (writeD_C d 0 (tabL (⟨0, []⟩ : Rm))) (Nat.add_le_add_right hC 1))
  have HW2 : Hid (∀ W s n c k, DAt W p (writeD d 0 (tabL (⟨0, []⟩ : Rm))) s n c k → Calls Tryd.prog 36 #[.pointer (some ⟨p, 0, none⟩), .int .i64 (N : Int), .agg ((tabL (⟨0, []⟩ : Rm)).map B).toArray] W fun e w' => e = .returned (.int .i64 0) ∧ Now W w' p (writeD (writeD d 0 (tabL (⟨0, []⟩ : Rm))) (N : Int) (tabL (⟨0, []⟩ : Rm)))) := Lib.hid (fun W s n c k h => by have := DiskWrite.write_calls p (N : Int) (tabL (⟨0, []⟩ : Rm)) _ s n c k W HO1.out h htl (by have := HC1.out; omega) HQ2.out; rwa [h2] at this)
  have HO2 := Lib.hid (writeD_ok HO1.out htl HQ2.out)
  have HFL : Hid (∀ W s n c k, DAt W p (writeD (writeD d 0 (tabL (⟨0, []⟩ : Rm))) (N : Int) (tabL (⟨0, []⟩ : Rm))) s n c k → Calls Tryd.prog 8 #[.pointer (some ⟨p, 0, none⟩)] W fun e w' => e = .returned (.int .i64 0) ∧ Now W w' p (flushD (writeD (writeD d 0 (tabL (⟨0, []⟩ : Rm))) (N : Int) (tabL (⟨0, []⟩ : Rm))))) := Lib.hid (fun W s n c k h => by have := DiskFlush.flush_calls p _ s n c k W HO2.out h; rwa [h3] at this)
  have HOE := Lib.hid h4
  have hix0 : ∀ W, (Instr.index 89 (.agg #[.int .i64 0, .int .i64 (N : Int)]) (.int .i64 0)).run Tryd.prog W = .ok (.int .i64 0) W := fun W => ShaStep.index_arr (k := 0) W Tryd.underlying89 (e := 3) (by kernel_rfl) (by kernel_rfl) (by decide) rfl
  have hix1 : ∀ W, (Instr.index 89 (.agg #[.int .i64 0, .int .i64 (N : Int)]) (.int .i64 1)).run Tryd.prog W = .ok (.int .i64 (N : Int)) W := fun W => ShaStep.index_arr (k := 1) W Tryd.underlying89 (e := 3) (by kernel_rfl) (by kernel_rfl) (by decide) rfl
  have HC0 : Hid (∀ W, Fr0 w W → W.cell? ⟨p, 0, none⟩ = some (.slice sa d.S.length sc)) := Lib.hid (fun W f => Bk.cell (hv.keep f).blk 0)
  have hzr := zero_r
  have hzb := zero_bl
  have HIL := Lib.hid (info_l htl)
  have HSL := Lib.hid (size_l htl)
  have HOL := Lib.hid (one_l (tabL (⟨0, []⟩ : Rm)))
  have HIR : Hid ((Tryd.prog.info? 32).map (·.size) = some RZ.size) := Lib.hid (info_r _ _)
  have hNb : ((N : Int) == 0) = false := by rw [beq_eq_false_iff_ne]; omega
  clear hok hv hsh hC hh hS h1 h2 h3 htb htl hN
  generalize hd : flushD (writeD (writeD d 0 (tabL (⟨0, []⟩ : Rm))) (N : Int) (tabL (⟨0, []⟩ : Rm))) = dE at *
  generalize (writeD (writeD d 0 (tabL (⟨0, []⟩ : Rm))) (N : Int) (tabL (⟨0, []⟩ : Rm))) = d2 at *
  generalize (writeD d 0 (tabL (⟨0, []⟩ : Rm))) = d1 at *
  generalize tabL (⟨0, []⟩ : Rm) = L at *
  go_enter Tryd.func15, Tryd.ntmps15
  go_wp2_with (first | (go_at_call 34; (with_reducible refine (HHV.out _ HF1.out).mono ?_); rintro e w2 ⟨rfl, hf2⟩; have HF2 := Lib.hid (HF1.out.then0 hf2); have HR2 := Lib.hid (hf2.keep HR1.out (fun h => h)); have c2 := HC0.out _ HF2.out; clear hf2) | ((with_reducible show wpList _ _ _ ({ dst := _, op := Op.build 32 _, type := _, pos := _, after := _, guard := _ } :: _) _ _); refine build_ev rfl 32 _ rfl [] (by simp) RZ built_rz ?_) | (go_at_call 35; (with_reducible refine (HPU.out _ HF2.out).mono ?_); rintro e w3 ⟨rfl, hf3⟩; have HF3 := Lib.hid (HF2.out.then0 hf3); have HR3 := Lib.hid (hf3.keep HR2.out (fun h => h)); have HZ3 := Lib.hid (Bk.new w3 (.cells ZB 22)); clear hf3) | ((with_reducible show wpList _ _ _ ({ dst := _, op := Op.store 22 _ _, type := _, pos := _, after := _, guard := _ } :: _) _ _); refine wpList_store_row rfl 22 _ _ rfl w3.heap.size (L.map B).toArray rfl rfl 22 ZB HZ3.out HIL.out HSL.out HOL.out ?_))
  have hf4 : Fr0 w3 ((w3.alloc (.cells ZB 22)).setRow w3.heap.size (L.map B).toArray) := ArrKit.Fr.row (Fr.alloc (Fr.refl _ _) _) _ _ (.inl (Nat.le_refl _))
  have HG4 := Lib.hid (ArrKit.Bk.row HZ3.out (L.map B).toArray)
  have HR4 := Lib.hid (hf4.keep HR3.out (fun h => h))
  have HF4 := Lib.hid (HF3.out.then0 hf4)
  have hgw : w.heap.size < w3.heap.size := Bk.lt HR3.out
  clear hf4 HZ3 HR3 HF3 c2 HR2 HF2 HR1 HF1
  generalize (w3.alloc (.cells ZB 22)).setRow w3.heap.size (L.map B).toArray = w4 at *
  generalize w3.heap.size = gb at *
  have hgp : gb ≠ p := by omega
  have hRp : w.heap.size ≠ p := by omega
  refine wp_loop_rounds 3 ?_
  rw [rounds_succ]
  go_wp2_with (first | ((with_reducible show wpList _ _ _ ({ dst := _, op := Op.load 22 _, type := _, pos := _, after := _, guard := _ } :: _) _ _); refine wpList_load_row_g (by rfl) 22 _ rfl gb rfl 22 (L.map B).toArray (0, 0) _ HG4.out Tryd.underlying22 rfl HIL.out ?_) | (go_at_call 36; (with_reducible refine (HW1.out _ (HV.out.keep HF4.out)).mono ?_); rintro e w5 ⟨rfl, ⟨s5, n5, c5, m5, hv5⟩, hf5⟩; have HV5 := Lib.hid hv5; have HG5 := Lib.hid (hf5.keep HG4.out hgp); have HR5 := Lib.hid (hf5.keep HR4.out hRp); have HF5 : Hid (Fr (fun i => i = p) w w5) := Lib.hid ((HF4.out.weaken (fun _ _ h => h.elim)).trans hf5); clear hv5 hf5))
  rw [rounds_succ]
  go_wp2_with (first | ((with_reducible show wpList _ _ _ ({ dst := _, op := Op.load 22 _, type := _, pos := _, after := _, guard := _ } :: _) _ _); refine wpList_load_row_g (by rfl) 22 _ rfl gb rfl 22 (L.map B).toArray (0, 0) _ HG5.out Tryd.underlying22 rfl HIL.out ?_) | (go_at_call 36; (with_reducible refine (HW2.out _ _ _ _ _ HV5.out).mono ?_); rintro e w6 ⟨rfl, ⟨s6, n6, c6, m6, hv6⟩, hf6⟩; have HV6 := Lib.hid hv6; have HR6 := Lib.hid (hf6.keep HR5.out hRp); have HF6 : Hid (Fr (fun i => i = p) w w6) := Lib.hid (HF5.out.trans hf6); clear hv6 hf6))
  rw [rounds_succ]
  go_wp2_with (first | ((with_reducible show wpList _ _ _ ({ dst := _, op := Op.build 32 _, type := _, pos := _, after := _, guard := _ } :: _) _ _); refine build_ev rfl 32 _ rfl [] (by simp) RZ built_rz ?_) | (go_at_call 8; (with_reducible refine (HFL.out _ _ _ _ _ HV6.out).mono ?_); rintro e w7 ⟨rfl, hn7⟩; have HN7 := Lib.hid hn7; have HR7 := Lib.hid (hn7.fr.keep HR6.out hRp); clear hn7) | ((with_reducible show wpList _ _ _ ({ dst := _, op := Op.store 32 _ _, type := _, pos := _, after := _, guard := _ } :: _) _ _); refine wpList_store_row rfl 32 _ _ rfl w.heap.size RZ rfl rfl 32 RZ HR7.out HIR.out rfl (RC_all _ _ _ _) ?_))
  refine fin_ct w.heap.size 32 RZ (.int .i64 0) (by rfl) (by rfl) (by rfl) (by rfl) Tryd.underlying32 (by rfl) HIR.out (ArrKit.Bk.row HR7.out _) ?_
  obtain ⟨s7, n7, c7, m7, hv7⟩ := HN7.out.at_
  have h12 : Fr (fun i => i = w.heap.size) w7 (w7.setRow w.heap.size RZ) := Fr.row1 _ _ _
  refine ⟨rfl, ⟨_, _, _, _, DAt_past hv7 HOE.out h12 HR7.out (rc_no _ _ _ _) (fun e => hRp e.symm)⟩, ArrKit.Fr.row (HF6.out.trans HN7.out.fr) _ _ (.inl (Nat.le_refl _))⟩

end Go.Proofs.YtmkmpfnadcmcoaaDoor.RmFormat
