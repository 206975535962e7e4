/- The theorems that the claim uses, text behind text (part 13). -/
import Derived.Test.YtmkmpfnadcmcoaaDoorXac
import Derived.Test.YtmkmpfnadcmcoaaDoorXad
import Derived.Test.YtmkmpfnadcmcoaaDoorXaj
set_option maxRecDepth 100000
set_option linter.unusedVariables false
set_option linter.unusedSimpArgs false
namespace Go.Proofs.YtmkmpfnadcmcoaaDoor.DiskWrite
open Go Go.RowKit Go.Proofs.YtmkmpfnadcmcoaaDoor.K Go.Proofs.YtmkmpfnadcmcoaaDoor.EqKit Go.Proofs.YtmkmpfnadcmcoaaDoor.ArrKit Go.Proofs.YtmkmpfnadcmcoaaDoor.HeldKit Go.Proofs.YtmkmpfnadcmcoaaDoor.GKit Go.Proofs.YtmkmpfnadcmcoaaDoor.GRow Go.Proofs.YtmkmpfnadcmcoaaDoor.DiskKit Go.Proofs.YtmkmpfnadcmcoaaDoor.DiskAsk Go.Proofs.YtmkmpfnadcmcoaaDoor.DiskForm Go.Proofs.YtmkmpfnadcmcoaaDoor.DiskAct Go.Proofs.YtmkmpfnadcmcoaaDoor.DiskNew Go.Proofs.YtmkmpfnadcmcoaaDoor.DiskCopy Go.Proofs.YtmkmpfnadcmcoaaDoor.DiskLay Go.Proofs.YtmkmpfnadcmcoaaDoor.DiskFlush Go.Proofs.YtmkmpfnadcmcoaaDoor.DiskTwins Go.Proofs.YtmkmpfnadcmcoaaDoor.GApp
theorem places_w : (match Tryd.prog.underlying 101 with | some (.struct fields) => fields.toList.mapM (fun f => (Tryd.prog.info? f.type).map fun i => (f.offset, i.size)) | _ => none) = some [(0, 1), (1, 128)] := by kernel_rfl
theorem built_wri (a : Int) (b : List UInt8) (hb : b.length = 128) : Tryd.prog.built 101 [(0, .int .i64 a), (1, .agg (b.map B).toArray)] = some (Wri.mk a b).cells.toArray := by
  obtain ⟨i1, hi, hz0, hz1, hz2⟩ := info_parts infoW
  have hp := places_w
  unfold Program.built
  rw [hi, Tryd.underlying101] at *
  simp only [hz0] at *
  rw [hp]
  have h129 := ZWC_cells
  generalize Value.agg (Wri.mk 0 Z128).cells.toArray = zv at *
  have e1 := GApp.fill_lay #[Value.int .i64 a] 0 zv.cells
  have e2 := GApp.fill_lay (b.map B).toArray 1 (K.lay zv.cells 0 [Value.int .i64 a])
  have c1 : (Value.int .i64 a).cells = #[Value.int .i64 a] := rfl
  have c2 : (Value.agg (b.map B).toArray).cells = (b.map B).toArray := rfl
  unfold Instr.fill
  simp only [List.getElem?_toArray, List.getElem?_cons_zero, c1]
  rw [if_neg (by simp [h129]), e1]
  unfold Instr.fill
  simp only [List.getElem?_toArray, List.getElem?_cons_succ, List.getElem?_cons_zero, c2]
  rw [if_neg (by simp [hb, h129]), e2]
  unfold Instr.fill
  congr 1
  apply Array.ext_getElem?
  intro i
  rw [lay_get, lay_get, lay_size, h129]
  simp only [List.length_map, hb, List.length_cons, List.length_nil, Nat.zero_add]
  have hc : (Wri.mk a b).cells.toArray[i]? = (Wri.mk a b).cells[i]? := by rw [List.getElem?_toArray]
  have hl : (Wri.mk a b).cells.length = 129 := by rw [Wri.cells, List.length_cons, List.length_map, hb]
  rw [hc]
  rcases (show i = 0 ∨ (1 ≤ i ∧ i < 129) ∨ 129 ≤ i by omega) with rfl | h | h
  · rw [if_neg (by omega), if_pos (by omega)]; rfl
  · obtain ⟨m, rfl⟩ : ∃ m, i = m + 1 := ⟨i - 1, by omega⟩
    rw [if_pos (by omega), Wri.data_at, Nat.add_sub_cancel]
  · rw [if_neg (by omega), if_neg (by omega), Array.getElem?_eq_none (by omega), List.getElem?_eq_none (by omega)]

theorem Now.fr0 {w w1 w2 : World} {p : Nat} {d : Dk} (f : Fr0 w w1) (h : Now w1 w2 p d) : Now w w2 p d := ⟨h.at_, (f.weaken (S' := fun i => i = p) (fun _ _ h => h.elim)).trans h.fr⟩
theorem Now.of0 {w w1 : World} {p : Nat} {d : Dk} {sa : Option Addr} {sc : Nat} {ca : Option Addr} {cc : Nat} (h : DAt w p d sa sc ca cc) (f : Fr0 w w1) : Now w w1 p d := ⟨⟨sa, sc, ca, cc, h.keep f⟩, f.weaken (fun _ _ h => h.elim)⟩

set_option maxHeartbeats 2000000 in
set_option maxRecDepth 100000 in
theorem write_wrong (p : Nat) (a : Int) (b : List UInt8) (d : Dk) (sa : Option Addr) (sc : Nat) (ca : Option Addr) (cc : Nat) (w : World) (hok : d.ok) (hv : DAt w p d sa sc ca cc) (hb : b.length = 128) (hr : rightB d a = false) : Calls Tryd.prog 36 #[.pointer (some ⟨p, 0, none⟩), .int .i64 a, .agg (b.map B).toArray] w fun e w' => e = .returned (.int .i64 1) ∧ Now w w' p d := by
  have HF0 : Hid (Fr0 w (w.alloc (.cells (b.map B).toArray 22))) := Lib.hid (Fr.alloc (Fr.refl _ _) _)
  have HX0 : Hid (Bk (w.alloc (.cells (b.map B).toArray 22)) w.heap.size (b.map B).toArray 22) := Lib.hid (Bk.new w _)
  have HRI := Lib.hid (right_calls p a d sa sc ca cc (w.alloc (.cells (b.map B).toArray 22)) hok (hv.keep HF0.out))
  have HSP := Lib.hid (fun W (h : Fr0 (w.alloc (.cells (b.map B).toArray 22)) W) => spend_calls p d sa sc ca cc W hok ((hv.keep HF0.out).keep h))
  have HV := Lib.hid hv
  have HOK := Lib.hid hok
  have hpw : p < w.heap.size := Bk.lt hv.blk
  rw [hr] at HRI
  clear hv hok hr
  go_enter Tryd.func36, Tryd.ntmps36
  go_wp2_with (first | (go_at_call 20; (with_reducible refine (HRI.out).mono ?_); rintro e w2 ⟨rfl, hf2⟩; have HF2 := Lib.hid hf2; clear hf2))
  go_ret
  exact ⟨rfl, Now.of0 HV.out (HF0.out.then0 HF2.out)⟩

set_option maxHeartbeats 2000000 in
set_option maxRecDepth 100000 in
theorem write_down (p : Nat) (a : Int) (b : List UInt8) (d : Dk) (sa : Option Addr) (sc : Nat) (ca : Option Addr) (cc : Nat) (w : World) (hok : d.ok) (hv : DAt w p d sa sc ca cc) (hb : b.length = 128) (hr : rightB d a = true) (ha : actE d = 3) : Calls Tryd.prog 36 #[.pointer (some ⟨p, 0, none⟩), .int .i64 a, .agg (b.map B).toArray] w fun e w' => e = .returned (.int .i64 3) ∧ Now w w' p (actD d) := by
  have HF0 : Hid (Fr0 w (w.alloc (.cells (b.map B).toArray 22))) := Lib.hid (Fr.alloc (Fr.refl _ _) _)
  have HX0 : Hid (Bk (w.alloc (.cells (b.map B).toArray 22)) w.heap.size (b.map B).toArray 22) := Lib.hid (Bk.new w _)
  have HRI := Lib.hid (right_calls p a d sa sc ca cc (w.alloc (.cells (b.map B).toArray 22)) hok (hv.keep HF0.out))
  have HSP := Lib.hid (fun W (h : Fr0 (w.alloc (.cells (b.map B).toArray 22)) W) => spend_calls p d sa sc ca cc W hok ((hv.keep HF0.out).keep h))
  have HV := Lib.hid hv
  have HOK := Lib.hid hok
  have hpw : p < w.heap.size := Bk.lt hv.blk
  rw [hr] at HRI
  rw [ha] at HSP
  clear hv hok hr ha
  go_enter Tryd.func36, Tryd.ntmps36
  go_wp2_with (first | (go_at_call 20; (with_reducible refine (HRI.out).mono ?_); rintro e w2 ⟨rfl, hf2⟩; have HF2 := Lib.hid hf2; clear hf2) | (go_at_call 21; (with_reducible refine (HSP.out _ HF2.out).mono ?_); rintro e w3 ⟨rfl, hf3⟩; have HA3 := Lib.hid hf3; clear hf3))
  go_ret
  exact ⟨rfl, Now.fr0 (HF0.out.then0 HF2.out) HA3.out.now⟩

set_option maxHeartbeats 2000000 in
set_option maxRecDepth 100000 in
theorem write_nw (p : Nat) (a : Int) (b : List UInt8) (d : Dk) (sa : Option Addr) (sc : Nat) (ca : Option Addr) (cc : Nat) (w : World) (hok : d.ok) (hv : DAt w p d sa sc ca cc) (hb : b.length = 128) (hr : rightB d a = true) (ha : actE d = 0) (hn : (secAt d a).nw = true) : Calls Tryd.prog 36 #[.pointer (some ⟨p, 0, none⟩), .int .i64 a, .agg (b.map B).toArray] w fun e w' => e = .returned (.int .i64 2) ∧ Now w w' p (actD d) := by
  have HF0 : Hid (Fr0 w (w.alloc (.cells (b.map B).toArray 22))) := Lib.hid (Fr.alloc (Fr.refl _ _) _)
  have HX0 : Hid (Bk (w.alloc (.cells (b.map B).toArray 22)) w.heap.size (b.map B).toArray 22) := Lib.hid (Bk.new w _)
  have HRI := Lib.hid (right_calls p a d sa sc ca cc (w.alloc (.cells (b.map B).toArray 22)) hok (hv.keep HF0.out))
  have HSP := Lib.hid (fun W (h : Fr0 (w.alloc (.cells (b.map B).toArray 22)) W) => spend_calls p d sa sc ca cc W hok ((hv.keep HF0.out).keep h))
  have HV := Lib.hid hv
  have HOK := Lib.hid hok
  have hpw : p < w.heap.size := Bk.lt hv.blk
  have hrt := hr
  rw [rightB, Bool.and_eq_true] at hrt
  have htt := thereB_true.1 hrt.1
  have ha0 := htt.1
  have ha1 := htt.2
  have hq : a.toNat < d.S.length := by omega
  have hsn := hv.v.sn
  have hsm := hv.v.sm
  have hcn := hv.v.cn
  have hcm := hv.v.cm
  have HSX : Hid (secAt d a = d.S[a.toNat]) := Lib.hid (by rw [secAt, List.getD_eq_getElem?_getD, List.getElem?_eq_getElem hq]; rfl)
  rw [HSX.out] at hn
  have HAS := Lib.hid (actD_S d)
  have HAC := Lib.hid (actD_C d)
  obtain ⟨sb, so, hso, -⟩ := hv.v.rs _ hq
  subst hso
  clear htt hrt
  rw [hr] at HRI
  rw [ha] at HSP
  have HN := Lib.hid hn
  clear hv hok hr ha hn
  go_enter Tryd.func36, Tryd.ntmps36
  go_wp2_with (first | (go_at_call 20; (with_reducible refine (HRI.out).mono ?_); rintro e w2 ⟨rfl, hf2⟩; have HF2 := Lib.hid hf2; clear hf2) | (go_at_call 21; (with_reducible refine (HSP.out _ HF2.out).mono ?_); rintro e w3 ⟨rfl, hf3⟩; have HA3 := Lib.hid hf3; have q0 : w3.cell? ⟨p, 0, none⟩ = some (.slice (some ⟨sb, so, none⟩) d.S.length sc) := (Bk.cell hf3.at_.blk 0).trans (by show some (Value.slice _ (actD d).S.length _) = _; rw [HAS.out]); have hrg : w3.rangeAt sb (so + a.toNat * 130) d.S[a.toNat].cells := (by have := hf3.at_.v.rs; rw [HAS.out] at this; exact RdG.at this hq); have hnw : w3.cell? ⟨sb, so + a.toNat * 130 + 129, none⟩ = some (.bool true) := (hrg 129 _ (Sec.nw_at (HOK.out.s _ (List.getElem_mem hq)))).trans (by rw [HN.out]); clear hrg; clear hf3))
  go_ret
  exact ⟨rfl, Now.fr0 (HF0.out.then0 HF2.out) HA3.out.now⟩

set_option maxHeartbeats 2000000 in
set_option maxRecDepth 100000 in
theorem write_yes (p : Nat) (a : Int) (b : List UInt8) (d : Dk) (sa : Option Addr) (sc : Nat) (ca : Option Addr) (cc : Nat) (w : World) (hok : d.ok) (hv : DAt w p d sa sc ca cc) (hb : b.length = 128) (hC : (d.C.length + 1) * 136 ≤ 140737488355328) (hwa : (Lit.int .i64 a).wf = true) (hr : rightB d a = true) (ha : actE d = 0) (hn : (secAt d a).nw = false) : Calls Tryd.prog 36 #[.pointer (some ⟨p, 0, none⟩), .int .i64 a, .agg (b.map B).toArray] w fun e w' => e = .returned (.int .i64 0) ∧ Now w w' p { actD d with C := d.C ++ [⟨a, b⟩] } := by
  have HF0 : Hid (Fr0 w (w.alloc (.cells (b.map B).toArray 22))) := Lib.hid (Fr.alloc (Fr.refl _ _) _)
  have HX0 : Hid (Bk (w.alloc (.cells (b.map B).toArray 22)) w.heap.size (b.map B).toArray 22) := Lib.hid (Bk.new w _)
  have HRI := Lib.hid (right_calls p a d sa sc ca cc (w.alloc (.cells (b.map B).toArray 22)) hok (hv.keep HF0.out))
  have HSP := Lib.hid (fun W (h : Fr0 (w.alloc (.cells (b.map B).toArray 22)) W) => spend_calls p d sa sc ca cc W hok ((hv.keep HF0.out).keep h))
  have HV := Lib.hid hv
  have HOK := Lib.hid hok
  have hpw : p < w.heap.size := Bk.lt hv.blk
  have hrt := hr
  rw [rightB, Bool.and_eq_true] at hrt
  have htt := thereB_true.1 hrt.1
  have ha0 := htt.1
  have ha1 := htt.2
  have hq : a.toNat < d.S.length := by omega
  have hsn := hv.v.sn
  have hsm := hv.v.sm
  have hcn := hv.v.cn
  have hcm := hv.v.cm
  have HSX : Hid (secAt d a = d.S[a.toNat]) := Lib.hid (by rw [secAt, List.getD_eq_getElem?_getD, List.getElem?_eq_getElem hq]; rfl)
  rw [HSX.out] at hn
  have HAS := Lib.hid (actD_S d)
  have HAC := Lib.hid (actD_C d)
  obtain ⟨sb, so, hso, -⟩ := hv.v.rs _ hq
  subst hso
  clear htt hrt
  rw [hr] at HRI
  rw [ha] at HSP
  have HN := Lib.hid hn
  have HIX : Hid ((Tryd.prog.info? 22).map (·.size) = some (b.map B).toArray.size) := Lib.hid (by rw [info_b, List.size_toArray, List.length_map, hb])
  have HBW := Lib.hid (built_wri a b hb)
  have hwok : (Wri.mk a b).ok := ⟨hb, hwa⟩
  have HWOK := Lib.hid hwok
  have HX2 : Hid ((Wri.mk a b).cells.toArray.size = 129) := Lib.hid (by rw [List.size_toArray, Wri.leng hwok])
  obtain ⟨i1, hi, hz0, hz1, hz2⟩ := info_parts infoW
  have HJ : Hid (Tryd.prog.info? 101 = some i1 ∧ i1.zero = some (.agg (Wri.mk 0 Z128).cells.toArray) ∧ i1.size = 129 ∧ i1.bytes = 136) := Lib.hid ⟨hi, hz0, hz1, hz2⟩
  clear hi hz0 hz1 hz2
  clear hv hok hr ha hn hwok
  go_enter Tryd.func36, Tryd.ntmps36
  go_wp2_with (first | (go_at_call 20; (with_reducible refine (HRI.out).mono ?_); rintro e w2 ⟨rfl, hf2⟩; have HF2 := Lib.hid hf2; clear hf2) | (go_at_call 21; (with_reducible refine (HSP.out _ HF2.out).mono ?_); rintro e w3 ⟨rfl, hf3⟩; have HA3 := Lib.hid hf3; have q0 : w3.cell? ⟨p, 0, none⟩ = some (.slice (some ⟨sb, so, none⟩) d.S.length sc) := (Bk.cell hf3.at_.blk 0).trans (by show some (Value.slice _ (actD d).S.length _) = _; rw [HAS.out]); have hrg : w3.rangeAt sb (so + a.toNat * 130) d.S[a.toNat].cells := (by have := hf3.at_.v.rs; rw [HAS.out] at this; exact RdG.at this hq); have hnw : w3.cell? ⟨sb, so + a.toNat * 130 + 129, none⟩ = some (.bool false) := (hrg 129 _ (Sec.nw_at (HOK.out.s _ (List.getElem_mem hq)))).trans (by rw [HN.out]); clear hrg; clear hf3))
  have HST : Hid (Stand [(w.heap.size, .cells (b.map B).toArray 22 (0, 0))] w3) := Lib.hid (Stand.cons ((HA3.out.fr).keep (HF2.out.keep HX0.out (fun h => h)) (by omega)) (Stand.nil _))
  have HP0 : Hid (Bk w3.drew p (dval (actD d) (some ⟨sb, so, none⟩) sc ca cc) 29) := Lib.hid HA3.out.at_.blk
  have HDV0 : Hid (DV w3.drew (actD d) (some ⟨sb, so, none⟩) sc ca cc) := Lib.hid (HA3.out.at_.v.keep (Fr.drew (Fr.refl _ _)))
  have HRC0 : Hid (RdC w3.drew ca d.C) := Lib.hid (by have := HDV0.out.rc; rwa [HAC.out] at this)
  have HPF0 : Hid (Fr (fun i => i = p) w w3.drew) := Lib.hid (Fr.drew (((HF0.out.then0 HF2.out).weaken (fun _ _ h => h.elim)).trans HA3.out.fr))
  have HGW0 : Hid (p < w3.drew.heap.size) := Lib.hid (Bk.lt HP0.out)
  have HC1 : Hid ((dval (actD d) (some ⟨sb, so, none⟩) sc ca cc)[1]? = some (.slice ca d.C.length cc)) := Lib.hid (by show some (Value.slice ca (actD d).C.length cc) = _; rw [HAC.out])
  have hxp : w.heap.size ≠ p := by omega
  clear q0 hnw
  refine wp_region_noPanic ?_
  refine wp_region_held_drew (S := (Stand [(w.heap.size, .cells (b.map B).toArray 22 (0, 0))])) (by kernel_rfl) (Stand.drew HST.out) (fun hHeld0 => ?_)
  generalize w3.drew = wd at *
  refine tk0 (i := 0) (v := .pointer (some ⟨p, 0, none⟩)) rfl hHeld0 ?_
  simp only [Act.put, zA, zB, zC, zD, zE, zF]
  refine tk0 (i := 1) (v := .pointer (some ⟨p, 0, none⟩)) rfl hHeld0 ?_
  simp only [Act.put, zA, zB, zC, zD, zE, zF]
  refine tk0 (i := 2) (v := .pointer (some ⟨p, 0, none⟩)) rfl hHeld0 ?_
  simp only [Act.put, zA, zB, zC, zD, zE, zF]
  refine tk0 (i := 3) (v := .pointer (some ⟨p, 1, none⟩)) rfl hHeld0 ?_
  simp only [Act.put, zA, zB, zC, zD, zE, zF]
  refine tk0 (i := 6) (v := .int .i64 a) rfl hHeld0 ?_
  simp only [Act.put, zA, zB, zC, zD, zE, zF]
  refine tk (i := 7) (v := .agg (b.map B).toArray) rfl (yields_row (by kernel_rfl) 22 _ rfl (w.heap.size) rfl 22 (b.map B).toArray (0, 0) _ (fun W h => Stand.a0 h) Tryd.underlying22 rfl HIX.out) hHeld0 ?_
  simp only [Act.put, zA, zB, zC, zD, zE, zF]
  refine tk (i := 8) (v := .agg (Wri.mk a b).cells.toArray) rfl (Or.inl ⟨by kernel_rfl, fun w hSw => GApp.run_build_op 101 _ rfl [(0, .int .i64 a), (1, .agg (b.map B).toArray)] (by simp [Act.eval, Act.put]) _ HBW.out⟩) hHeld0 ?_
  simp only [Act.put, zA, zB, zC, zD, zE, zF]
  change wpAnyH _ _ _ _ _ 7 #[true, true, true, true, false, false, true, true, true, false, false, false, false, false] _ _
  refine wpAnyH_ready (rs := [4, 9]) (by kernel_rfl) (by simp) ?_
  refine AllReadyH.cons rfl (fun K hK => ?_) (AllReadyH.cons rfl (fun K hK => ?_) (AllReadyH.nil))
  · simp only [zA, zB, zC]
    refine (if_pos (by kernel_rfl)).mpr ?_
    have q1 : wd.cell? ⟨p, 1, none⟩ = some (.slice ca d.C.length cc) := (Bk.cell HP0.out 1).trans HC1.out
    have hlp : p < wd.heap.size := Bk.lt HP0.out
    go_wp2_with fail
    refine hK.out _ _ (hHeld0) (fun hHeld1 => ?_)
    clear hK K hHeld0
    clear q1 hlp
    change wpAnyH _ _ _ _ _ 6 #[true, true, true, true, true, false, true, true, true, false, false, false, false, false] _ _
    refine wpAnyH_ready (rs := [5, 9]) (by kernel_rfl) (by simp) ?_
    refine AllReadyH.cons rfl (fun K hK => ?_) (AllReadyH.cons rfl (fun K hK => ?_) (AllReadyH.nil))
    · simp only [zA, zB, zC]
      refine (if_pos (by kernel_rfl)).mpr ?_
      go_wp2_with fail
      refine (clip_calls ca d.C.length cc _ hcn hcm).mono ?_
      rintro e wx1 ⟨rfl, rfl⟩
      dsimp only
      refine hK.out _ _ (hHeld1) (fun hHeld2 => ?_)
      clear hK K hHeld1
      change wpAnyH _ _ _ _ _ 5 #[true, true, true, true, true, true, true, true, true, false, false, false, false, false] _ _
      refine wpAnyH_ready (rs := [9]) (by kernel_rfl) (by simp) ?_
      refine AllReadyH.cons rfl (fun K hK => ?_) AllReadyH.nil
      simp only [zA, zB, zC]
      refine (if_pos (by kernel_rfl)).mpr ?_
      refine GApp.wp_buildSlice_one 27 _ rfl 101 i1 _ 129 Tryd.underlying27 HJ.out.1 HJ.out.2.1 HJ.out.2.2.1 (by decide) (by decide) (Wri.mk a b).cells.toArray HX2.out rfl ?_
      refine hK.out _ _ (Stand.fr hHeld2 (Fr.alloc (Fr.refl (fun _ => False) _) _) (fun _ _ h => h)) (fun hHeld3 => ?_)
      clear hK K hHeld2
      have HP3 : Hid (Bk (wd.alloc (.cells (Wri.mk a b).cells.toArray 101)) p (dval (actD d) (some ⟨sb, so, none⟩) sc ca cc) 29) := Lib.hid (Fr.keep (Fr.alloc (Fr.refl (fun _ => False) wd) _) HP0.out (fun h => h))
      have HRC3 : Hid (RdC (wd.alloc (.cells (Wri.mk a b).cells.toArray 101)) ca d.C) := Lib.hid (RdG.keep HRC0.out (Fr.alloc (Fr.refl (fun _ => False) wd) _))
      have HDV3 : Hid (DV (wd.alloc (.cells (Wri.mk a b).cells.toArray 101)) (actD d) (some ⟨sb, so, none⟩) sc ca cc) := Lib.hid (DV.keep HDV0.out (Fr.alloc (Fr.refl (fun _ => False) wd) _))
      have HPF3 : Hid (Fr (fun i => i = p) w (wd.alloc (.cells (Wri.mk a b).cells.toArray 101))) := Lib.hid (Fr.then0 HPF0.out (Fr.alloc (Fr.refl (fun _ => False) wd) _))
      have HGW3 : Hid (p < (wd.alloc (.cells (Wri.mk a b).cells.toArray 101)).heap.size) := Lib.hid (Fr.lt (Fr.alloc (Fr.refl (fun _ => False) wd) _) HGW0.out)
      have HN3 : Hid (Bk (wd.alloc (.cells (Wri.mk a b).cells.toArray 101)) wd.heap.size (Wri.mk a b).cells.toArray 101) := Lib.hid (Bk.new _ _)
      generalize wd.heap.size = gn at *
      generalize (wd.alloc (.cells (Wri.mk a b).cells.toArray 101)) = wy2 at *
      change wpAnyH _ _ _ _ _ 4 #[true, true, true, true, true, true, true, true, true, true, false, false, false, false] _ _
      refine wpAnyH_ready (rs := [10]) (by kernel_rfl) (by simp) ?_
      refine AllReadyH.cons rfl (fun K hK => ?_) AllReadyH.nil
      simp only [zA, zB, zC]
      refine (if_pos (by kernel_rfl)).mpr ?_
      obtain ⟨g, cap, cur, wz, hr5, hg5, ho5, hf5⟩ := GApp.run_append_one (P := Tryd.prog) wy2 27 27 i1 _ 136 Tryd.underlying27 HJ.out.1 HJ.out.2.1 HJ.out.2.2.1 HJ.out.2.2.2 ZWC_cells (by decide) ca d.C.length d.C rfl HRC3.out (wris_len HOK.out.c) gn 1 ⟨a, b⟩ (Wri.leng HWOK.out) HN3.out (by omega) hC (fun e => by subst e; exact RdG.none_len HRC3.out)
      refine GApp.wp_append_run _ _ 27 rfl _ _ _ rfl rfl hr5 ?_
      refine hK.out _ _ (Stand.fr hHeld3 hf5 (fun _ _ h => h)) (fun hHeld4 => ?_)
      clear hK K hHeld3
      have HP4 : Hid (Bk wz p (dval (actD d) (some ⟨sb, so, none⟩) sc ca cc) 29) := Lib.hid (Fr.keep hf5 HP3.out (fun h => h))
      have HRC4 : Hid (RdC wz ca d.C) := Lib.hid (RdG.keep HRC3.out hf5)
      have HDV4 : Hid (DV wz (actD d) (some ⟨sb, so, none⟩) sc ca cc) := Lib.hid (DV.keep HDV3.out hf5)
      have HPF4 : Hid (Fr (fun i => i = p) w wz) := Lib.hid (Fr.then0 HPF3.out hf5)
      have HGW4 : Hid (p < wz.heap.size) := Lib.hid (Fr.lt hf5 HGW3.out)
      have HN4 : Hid (Bk wz gn (Wri.mk a b).cells.toArray 101) := Lib.hid (Fr.keep hf5 HN3.out (fun h => h))
      have HO4 := Lib.hid ho5
      have HG4 := Lib.hid hg5
      clear hr5 hf5 ho5 hg5
      refine tk0 (i := 11) (v := .pointer (some ⟨p, 0, none⟩)) rfl hHeld4 ?_
      simp only [Act.put, zA, zB, zC, zD, zE, zF]
      refine tk0 (i := 12) (v := .pointer (some ⟨p, 1, none⟩)) rfl hHeld4 ?_
      simp only [Act.put, zA, zB, zC, zD, zE, zF]
      change wpAnyH _ _ _ _ _ 1 #[true, true, true, true, true, true, true, true, true, true, true, true, true, false] _ _
      refine wpAnyH_ready (rs := [13]) (by kernel_rfl) (by simp) ?_
      refine AllReadyH.cons rfl (fun K hK => ?_) AllReadyH.nil
      simp only [zA, zB, zC]
      refine (if_pos (by kernel_rfl)).mpr ?_
      have q1 : wz.cell? ⟨p, 1, none⟩ = some (.slice ca d.C.length cc) := (Bk.cell HP4.out 1).trans HC1.out
      have f1 := Bk.free HP4.out 1
      go_wp2_with fail
      refine hK.out _ _ (Stand.fr hHeld4 (Fr.set1 _ _ _ _) (fun r hr => by simp only [List.mem_cons, List.not_mem_nil, or_false] at hr; subst hr; exact hxp)) (fun hHeld5 => ?_)
      clear hK K hHeld4
      clear q1 f1
      change wpAnyH _ _ _ _ _ 0 #[true, true, true, true, true, true, true, true, true, true, true, true, true, true] _ _
      refine wpAnyH_done (by kernel_rfl) ?_ _
      refine NoPanic.normal ?_
      have HEND := Lib.hid hHeld5
      clear hHeld5
      go_wp2_with fail
      go_ret
      have hgp : g ≠ p := by have h1 := HPF4.out.size; have h2 := HG4.out; have h3 := HGW3.out; omega
      have hfs := Fr.set1 wz p 1 (.slice (some ⟨g, 0, none⟩) (d.C.length + 1) cap)
      have hv5 := DV.past (d := actD d) (HDV4.out) (actD_ok HOK.out) hfs HP4.out (dval_no _ _ _ _ _)
      have ho5 := OwnG.keep HO4.out hfs hgp
      refine ⟨rfl, ⟨⟨some ⟨sb, so, none⟩, sc, some ⟨g, 0, none⟩, cap, ?_, ?_⟩, (HPF4.out).trans hfs⟩⟩
      · have := Bk.set HP4.out 1 (.slice (some ⟨g, 0, none⟩) (d.C.length + 1) cap)
        simp only [dval, List.length_append, List.length_cons, List.length_nil]
        exact this
      · exact ⟨hv5.rs, ho5.rd, hv5.sn, hv5.sm, ho5.room, ho5.max⟩
    · simp only [zA, zB, zC]
      refine (if_pos (by kernel_rfl)).mpr ?_
      refine GApp.wp_buildSlice_one 27 _ rfl 101 i1 _ 129 Tryd.underlying27 HJ.out.1 HJ.out.2.1 HJ.out.2.2.1 (by decide) (by decide) (Wri.mk a b).cells.toArray HX2.out rfl ?_
      refine hK.out _ _ (Stand.fr hHeld1 (Fr.alloc (Fr.refl (fun _ => False) _) _) (fun _ _ h => h)) (fun hHeld2 => ?_)
      clear hK K hHeld1
      have HP2 : Hid (Bk (wd.alloc (.cells (Wri.mk a b).cells.toArray 101)) p (dval (actD d) (some ⟨sb, so, none⟩) sc ca cc) 29) := Lib.hid (Fr.keep (Fr.alloc (Fr.refl (fun _ => False) wd) _) HP0.out (fun h => h))
      have HRC2 : Hid (RdC (wd.alloc (.cells (Wri.mk a b).cells.toArray 101)) ca d.C) := Lib.hid (RdG.keep HRC0.out (Fr.alloc (Fr.refl (fun _ => False) wd) _))
      have HDV2 : Hid (DV (wd.alloc (.cells (Wri.mk a b).cells.toArray 101)) (actD d) (some ⟨sb, so, none⟩) sc ca cc) := Lib.hid (DV.keep HDV0.out (Fr.alloc (Fr.refl (fun _ => False) wd) _))
      have HPF2 : Hid (Fr (fun i => i = p) w (wd.alloc (.cells (Wri.mk a b).cells.toArray 101))) := Lib.hid (Fr.then0 HPF0.out (Fr.alloc (Fr.refl (fun _ => False) wd) _))
      have HGW2 : Hid (p < (wd.alloc (.cells (Wri.mk a b).cells.toArray 101)).heap.size) := Lib.hid (Fr.lt (Fr.alloc (Fr.refl (fun _ => False) wd) _) HGW0.out)
      have HN2 : Hid (Bk (wd.alloc (.cells (Wri.mk a b).cells.toArray 101)) wd.heap.size (Wri.mk a b).cells.toArray 101) := Lib.hid (Bk.new _ _)
      generalize wd.heap.size = gn at *
      generalize (wd.alloc (.cells (Wri.mk a b).cells.toArray 101)) = wy1 at *
      change wpAnyH _ _ _ _ _ 5 #[true, true, true, true, true, false, true, true, true, true, false, false, false, false] _ _
      refine wpAnyH_ready (rs := [5]) (by kernel_rfl) (by simp) ?_
      refine AllReadyH.cons rfl (fun K hK => ?_) AllReadyH.nil
      simp only [zA, zB, zC]
      refine (if_pos (by kernel_rfl)).mpr ?_
      go_wp2_with fail
      refine (clip_calls ca d.C.length cc _ hcn hcm).mono ?_
      rintro e wx2 ⟨rfl, rfl⟩
      dsimp only
      refine hK.out _ _ (hHeld2) (fun hHeld3 => ?_)
      clear hK K hHeld2
      change wpAnyH _ _ _ _ _ 4 #[true, true, true, true, true, true, true, true, true, true, false, false, false, false] _ _
      refine wpAnyH_ready (rs := [10]) (by kernel_rfl) (by simp) ?_
      refine AllReadyH.cons rfl (fun K hK => ?_) AllReadyH.nil
      simp only [zA, zB, zC]
      refine (if_pos (by kernel_rfl)).mpr ?_
      obtain ⟨g, cap, cur, wz, hr5, hg5, ho5, hf5⟩ := GApp.run_append_one (P := Tryd.prog) wy1 27 27 i1 _ 136 Tryd.underlying27 HJ.out.1 HJ.out.2.1 HJ.out.2.2.1 HJ.out.2.2.2 ZWC_cells (by decide) ca d.C.length d.C rfl HRC2.out (wris_len HOK.out.c) gn 1 ⟨a, b⟩ (Wri.leng HWOK.out) HN2.out (by omega) hC (fun e => by subst e; exact RdG.none_len HRC2.out)
      refine GApp.wp_append_run _ _ 27 rfl _ _ _ rfl rfl hr5 ?_
      refine hK.out _ _ (Stand.fr hHeld3 hf5 (fun _ _ h => h)) (fun hHeld4 => ?_)
      clear hK K hHeld3
      have HP4 : Hid (Bk wz p (dval (actD d) (some ⟨sb, so, none⟩) sc ca cc) 29) := Lib.hid (Fr.keep hf5 HP2.out (fun h => h))
      have HRC4 : Hid (RdC wz ca d.C) := Lib.hid (RdG.keep HRC2.out hf5)
      have HDV4 : Hid (DV wz (actD d) (some ⟨sb, so, none⟩) sc ca cc) := Lib.hid (DV.keep HDV2.out hf5)
      have HPF4 : Hid (Fr (fun i => i = p) w wz) := Lib.hid (Fr.then0 HPF2.out hf5)
      have HGW4 : Hid (p < wz.heap.size) := Lib.hid (Fr.lt hf5 HGW2.out)
      have HN4 : Hid (Bk wz gn (Wri.mk a b).cells.toArray 101) := Lib.hid (Fr.keep hf5 HN2.out (fun h => h))
      have HO4 := Lib.hid ho5
      have HG4 := Lib.hid hg5
      clear hr5 hf5 ho5 hg5
      refine tk0 (i := 11) (v := .pointer (some ⟨p, 0, none⟩)) rfl hHeld4 ?_
      simp only [Act.put, zA, zB, zC, zD, zE, zF]
      refine tk0 (i := 12) (v := .pointer (some ⟨p, 1, none⟩)) rfl hHeld4 ?_
      simp only [Act.put, zA, zB, zC, zD, zE, zF]
      change wpAnyH _ _ _ _ _ 1 #[true, true, true, true, true, true, true, true, true, true, true, true, true, false] _ _
      refine wpAnyH_ready (rs := [13]) (by kernel_rfl) (by simp) ?_
      refine AllReadyH.cons rfl (fun K hK => ?_) AllReadyH.nil
      simp only [zA, zB, zC]
      refine (if_pos (by kernel_rfl)).mpr ?_
      have q1 : wz.cell? ⟨p, 1, none⟩ = some (.slice ca d.C.length cc) := (Bk.cell HP4.out 1).trans HC1.out
      have f1 := Bk.free HP4.out 1
      go_wp2_with fail
      refine hK.out _ _ (Stand.fr hHeld4 (Fr.set1 _ _ _ _) (fun r hr => by simp only [List.mem_cons, List.not_mem_nil, or_false] at hr; subst hr; exact hxp)) (fun hHeld5 => ?_)
      clear hK K hHeld4
      clear q1 f1
      change wpAnyH _ _ _ _ _ 0 #[true, true, true, true, true, true, true, true, true, true, true, true, true, true] _ _
      refine wpAnyH_done (by kernel_rfl) ?_ _
      refine NoPanic.normal ?_
      have HEND := Lib.hid hHeld5
      clear hHeld5
      go_wp2_with fail
      go_ret
      have hgp : g ≠ p := by have h1 := HPF4.out.size; have h2 := HG4.out; have h3 := HGW2.out; omega
      have hfs := Fr.set1 wz p 1 (.slice (some ⟨g, 0, none⟩) (d.C.length + 1) cap)
      have hv5 := DV.past (d := actD d) (HDV4.out) (actD_ok HOK.out) hfs HP4.out (dval_no _ _ _ _ _)
      have ho5 := OwnG.keep HO4.out hfs hgp
      refine ⟨rfl, ⟨⟨some ⟨sb, so, none⟩, sc, some ⟨g, 0, none⟩, cap, ?_, ?_⟩, (HPF4.out).trans hfs⟩⟩
      · have := Bk.set HP4.out 1 (.slice (some ⟨g, 0, none⟩) (d.C.length + 1) cap)
        simp only [dval, List.length_append, List.length_cons, List.length_nil]
        exact this
      · exact ⟨hv5.rs, ho5.rd, hv5.sn, hv5.sm, ho5.room, ho5.max⟩
  · simp only [zA, zB, zC]
    refine (if_pos (by kernel_rfl)).mpr ?_
    refine GApp.wp_buildSlice_one 27 _ rfl 101 i1 _ 129 Tryd.underlying27 HJ.out.1 HJ.out.2.1 HJ.out.2.2.1 (by decide) (by decide) (Wri.mk a b).cells.toArray HX2.out rfl ?_
    refine hK.out _ _ (Stand.fr hHeld0 (Fr.alloc (Fr.refl (fun _ => False) _) _) (fun _ _ h => h)) (fun hHeld1 => ?_)
    clear hK K hHeld0
    have HP1 : Hid (Bk (wd.alloc (.cells (Wri.mk a b).cells.toArray 101)) p (dval (actD d) (some ⟨sb, so, none⟩) sc ca cc) 29) := Lib.hid (Fr.keep (Fr.alloc (Fr.refl (fun _ => False) wd) _) HP0.out (fun h => h))
    have HRC1 : Hid (RdC (wd.alloc (.cells (Wri.mk a b).cells.toArray 101)) ca d.C) := Lib.hid (RdG.keep HRC0.out (Fr.alloc (Fr.refl (fun _ => False) wd) _))
    have HDV1 : Hid (DV (wd.alloc (.cells (Wri.mk a b).cells.toArray 101)) (actD d) (some ⟨sb, so, none⟩) sc ca cc) := Lib.hid (DV.keep HDV0.out (Fr.alloc (Fr.refl (fun _ => False) wd) _))
    have HPF1 : Hid (Fr (fun i => i = p) w (wd.alloc (.cells (Wri.mk a b).cells.toArray 101))) := Lib.hid (Fr.then0 HPF0.out (Fr.alloc (Fr.refl (fun _ => False) wd) _))
    have HGW1 : Hid (p < (wd.alloc (.cells (Wri.mk a b).cells.toArray 101)).heap.size) := Lib.hid (Fr.lt (Fr.alloc (Fr.refl (fun _ => False) wd) _) HGW0.out)
    have HN1 : Hid (Bk (wd.alloc (.cells (Wri.mk a b).cells.toArray 101)) wd.heap.size (Wri.mk a b).cells.toArray 101) := Lib.hid (Bk.new _ _)
    generalize wd.heap.size = gn at *
    generalize (wd.alloc (.cells (Wri.mk a b).cells.toArray 101)) = wy0 at *
    change wpAnyH _ _ _ _ _ 6 #[true, true, true, true, false, false, true, true, true, true, false, false, false, false] _ _
    refine wpAnyH_ready (rs := [4]) (by kernel_rfl) (by simp) ?_
    refine AllReadyH.cons rfl (fun K hK => ?_) AllReadyH.nil
    simp only [zA, zB, zC]
    refine (if_pos (by kernel_rfl)).mpr ?_
    have q1 : wy0.cell? ⟨p, 1, none⟩ = some (.slice ca d.C.length cc) := (Bk.cell HP1.out 1).trans HC1.out
    have hlp : p < wy0.heap.size := Bk.lt HP1.out
    go_wp2_with fail
    refine hK.out _ _ (hHeld1) (fun hHeld2 => ?_)
    clear hK K hHeld1
    clear q1 hlp
    change wpAnyH _ _ _ _ _ 5 #[true, true, true, true, true, false, true, true, true, true, false, false, false, false] _ _
    refine wpAnyH_ready (rs := [5]) (by kernel_rfl) (by simp) ?_
    refine AllReadyH.cons rfl (fun K hK => ?_) AllReadyH.nil
    simp only [zA, zB, zC]
    refine (if_pos (by kernel_rfl)).mpr ?_
    go_wp2_with fail
    refine (clip_calls ca d.C.length cc _ hcn hcm).mono ?_
    rintro e wx2 ⟨rfl, rfl⟩
    dsimp only
    refine hK.out _ _ (hHeld2) (fun hHeld3 => ?_)
    clear hK K hHeld2
    change wpAnyH _ _ _ _ _ 4 #[true, true, true, true, true, true, true, true, true, true, false, false, false, false] _ _
    refine wpAnyH_ready (rs := [10]) (by kernel_rfl) (by simp) ?_
    refine AllReadyH.cons rfl (fun K hK => ?_) AllReadyH.nil
    simp only [zA, zB, zC]
    refine (if_pos (by kernel_rfl)).mpr ?_
    obtain ⟨g, cap, cur, wz, hr5, hg5, ho5, hf5⟩ := GApp.run_append_one (P := Tryd.prog) wy0 27 27 i1 _ 136 Tryd.underlying27 HJ.out.1 HJ.out.2.1 HJ.out.2.2.1 HJ.out.2.2.2 ZWC_cells (by decide) ca d.C.length d.C rfl HRC1.out (wris_len HOK.out.c) gn 1 ⟨a, b⟩ (Wri.leng HWOK.out) HN1.out (by omega) hC (fun e => by subst e; exact RdG.none_len HRC1.out)
    refine GApp.wp_append_run _ _ 27 rfl _ _ _ rfl rfl hr5 ?_
    refine hK.out _ _ (Stand.fr hHeld3 hf5 (fun _ _ h => h)) (fun hHeld4 => ?_)
    clear hK K hHeld3
    have HP4 : Hid (Bk wz p (dval (actD d) (some ⟨sb, so, none⟩) sc ca cc) 29) := Lib.hid (Fr.keep hf5 HP1.out (fun h => h))
    have HRC4 : Hid (RdC wz ca d.C) := Lib.hid (RdG.keep HRC1.out hf5)
    have HDV4 : Hid (DV wz (actD d) (some ⟨sb, so, none⟩) sc ca cc) := Lib.hid (DV.keep HDV1.out hf5)
    have HPF4 : Hid (Fr (fun i => i = p) w wz) := Lib.hid (Fr.then0 HPF1.out hf5)
    have HGW4 : Hid (p < wz.heap.size) := Lib.hid (Fr.lt hf5 HGW1.out)
    have HN4 : Hid (Bk wz gn (Wri.mk a b).cells.toArray 101) := Lib.hid (Fr.keep hf5 HN1.out (fun h => h))
    have HO4 := Lib.hid ho5
    have HG4 := Lib.hid hg5
    clear hr5 hf5 ho5 hg5
    refine tk0 (i := 11) (v := .pointer (some ⟨p, 0, none⟩)) rfl hHeld4 ?_
    simp only [Act.put, zA, zB, zC, zD, zE, zF]
    refine tk0 (i := 12) (v := .pointer (some ⟨p, 1, none⟩)) rfl hHeld4 ?_
    simp only [Act.put, zA, zB, zC, zD, zE, zF]
    change wpAnyH _ _ _ _ _ 1 #[true, true, true, true, true, true, true, true, true, true, true, true, true, false] _ _
    refine wpAnyH_ready (rs := [13]) (by kernel_rfl) (by simp) ?_
    refine AllReadyH.cons rfl (fun K hK => ?_) AllReadyH.nil
    simp only [zA, zB, zC]
    refine (if_pos (by kernel_rfl)).mpr ?_
    have q1 : wz.cell? ⟨p, 1, none⟩ = some (.slice ca d.C.length cc) := (Bk.cell HP4.out 1).trans HC1.out
    have f1 := Bk.free HP4.out 1
    go_wp2_with fail
    refine hK.out _ _ (Stand.fr hHeld4 (Fr.set1 _ _ _ _) (fun r hr => by simp only [List.mem_cons, List.not_mem_nil, or_false] at hr; subst hr; exact hxp)) (fun hHeld5 => ?_)
    clear hK K hHeld4
    clear q1 f1
    change wpAnyH _ _ _ _ _ 0 #[true, true, true, true, true, true, true, true, true, true, true, true, true, true] _ _
    refine wpAnyH_done (by kernel_rfl) ?_ _
    refine NoPanic.normal ?_
    have HEND := Lib.hid hHeld5
    clear hHeld5
    go_wp2_with fail
    go_ret
    have hgp : g ≠ p := by have h1 := HPF4.out.size; have h2 := HG4.out; have h3 := HGW1.out; omega
    have hfs := Fr.set1 wz p 1 (.slice (some ⟨g, 0, none⟩) (d.C.length + 1) cap)
    have hv5 := DV.past (d := actD d) (HDV4.out) (actD_ok HOK.out) hfs HP4.out (dval_no _ _ _ _ _)
    have ho5 := OwnG.keep HO4.out hfs hgp
    refine ⟨rfl, ⟨⟨some ⟨sb, so, none⟩, sc, some ⟨g, 0, none⟩, cap, ?_, ?_⟩, (HPF4.out).trans hfs⟩⟩
    · have := Bk.set HP4.out 1 (.slice (some ⟨g, 0, none⟩) (d.C.length + 1) cap)
      simp only [dval, List.length_append, List.length_cons, List.length_nil]
      exact this
    · exact ⟨hv5.rs, ho5.rd, hv5.sn, hv5.sm, ho5.room, ho5.max⟩

/-- WRITE: what disk.Write does. -/
theorem write_calls (p : Nat) (a : Int) (b : List UInt8) (d : Dk) (sa : Option Addr) (sc : Nat) (ca : Option Addr) (cc : Nat) (w : World) (hok : d.ok) (hv : DAt w p d sa sc ca cc) (hb : b.length = 128) (hC : (d.C.length + 1) * 136 ≤ 140737488355328) (hwa : (Lit.int .i64 a).wf = true) : Calls Tryd.prog 36 #[.pointer (some ⟨p, 0, none⟩), .int .i64 a, .agg (b.map B).toArray] w fun e w' => e = .returned (.int .i64 (writeE d a)) ∧ Now w w' p (writeD d a b) := by
  unfold writeE writeD
  cases hr : rightB d a with
  | false => rw [if_pos rfl, if_pos rfl]; exact write_wrong p a b d sa sc ca cc w hok hv hb hr
  | true =>
    simp only [if_neg (show ¬ (true = false) by simp)]
    rcases actE_cases d with ha | ha
    · rw [if_pos ha, if_pos ha]; exact write_down p a b d sa sc ca cc w hok hv hb hr ha
    · have h3 : ¬ actE d = 3 := by omega
      rw [if_neg h3, if_neg h3]
      cases hn : (secAt d a).nw with
      | true => rw [if_pos rfl, if_pos rfl]; exact write_nw p a b d sa sc ca cc w hok hv hb hr ha hn
      | false => rw [if_neg (by simp), if_neg (by simp)]; exact write_yes p a b d sa sc ca cc w hok hv hb hC hwa hr ha hn

end Go.Proofs.YtmkmpfnadcmcoaaDoor.DiskWrite
