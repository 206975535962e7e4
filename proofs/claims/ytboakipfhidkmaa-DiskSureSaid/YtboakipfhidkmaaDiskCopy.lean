/- A disk of one's own: the walks of slices.Clone, slices.Clip and of Copy. -/
import Derived.Test.YtboakipfhidkmaaDiskNew
import Derived.WalkSpells
set_option linter.unusedVariables false
set_option linter.unusedSimpArgs false
namespace Go.Proofs.Ytboakipfhidkmaa.DiskCopy
open Go Go.RowKit Go.Proofs.Ytboakipfhidkmaa.K Go.Proofs.Ytboakipfhidkmaa.EqKit Go.Proofs.Ytboakipfhidkmaa.ArrKit Go.Proofs.Ytboakipfhidkmaa.HeldKit Go.Proofs.Ytboakipfhidkmaa.GKit Go.Proofs.Ytboakipfhidkmaa.GRow Go.Proofs.Ytboakipfhidkmaa.DiskKit Go.Proofs.Ytboakipfhidkmaa.DiskAsk Go.Proofs.Ytboakipfhidkmaa.DiskForm Go.Proofs.Ytboakipfhidkmaa.DiskAct Go.Proofs.Ytboakipfhidkmaa.DiskNew

theorem infoW : (Try.prog.info? 65).map (fun i => (i.zero, i.size, i.bytes)) = some (some (.agg (Wri.mk 0 Z128).cells.toArray), 129, 136) := by kernel_rfl
theorem secs_len {l : List Sec} (h : ∀ x ∈ l, x.ok) : ∀ x ∈ l, x.cells.length = 130 := fun x hx => Sec.len (h x hx)
theorem wris_len {l : List Wri} (h : ∀ x ∈ l, x.ok) : ∀ x ∈ l, x.cells.length = 129 := fun x hx => Wri.leng (h x hx)
theorem ZSC_cells : (Value.agg ZSC).cells.size = 130 := by
  show ZSC.size = 130
  rw [ZSC, List.size_toArray, Sec.len Zs_ok]
theorem ZWC_cells : (Value.agg (Wri.mk 0 Z128).cells.toArray).cells.size = 129 := by
  show (Wri.mk 0 Z128).cells.toArray.size = 129
  rw [List.size_toArray, Wri.leng ⟨by simp [Z128], by decide⟩]
abbrev OwnS (w : World) (g cap : Nat) (cur : Array Value) (l : List Sec) : Prop := OwnG Sec.cells 130 67 w g cap cur l
abbrev OwnW (w : World) (g cap : Nat) (cur : Array Value) (l : List Wri) : Prop := OwnG Wri.cells 129 65 w g cap cur l
set_option maxHeartbeats 2000000 in
set_option maxRecDepth 100000 in
theorem clone_calls (sa : Option Addr) (sc : Nat) (l : List Sec) (w : World) (hrd : RdS w sa l) (hok : ∀ x ∈ l, x.ok) (h0 : 0 < l.length) (hn : l.length * 130 ≤ 140737488355328) :
    Calls Try.prog 41 #[.slice sa l.length sc] w fun e w' => ∃ g cap cur, e = .returned (.slice (some ⟨g, 0, none⟩) l.length cap) ∧ w.heap.size ≤ g ∧ OwnS w' g cap cur l ∧ Fr0 w w' := by
  obtain ⟨b, o, rfl, -, -⟩ := RdG.form hrd h0 Sec.pos
  obtain ⟨i0, hi, hz0, hz1, hz2⟩ := info_parts infoS
  have HI : Hid (Try.prog.info? 67 = some i0 ∧ i0.zero = some (.agg ZSC) ∧ i0.size = 130 ∧ i0.bytes = 130) := Lib.hid ⟨hi, hz0, hz1, hz2⟩
  have HE : Hid (Bk (w.alloc (.cells #[] 67)) w.heap.size #[] 67) := Lib.hid (Bk.new w _)
  have HRD : Hid (RdS (w.alloc (.cells #[] 67)) (some ⟨b, o, none⟩) l) := Lib.hid (RdG.keep hrd (Fr.alloc (Fr.refl _ _) _))
  have HOK := Lib.hid hok
  clear hi hz0 hz1 hz2 hrd hok
  have hes := @Lib.run_eql_slice_nil Try.prog
  go_enter Try.func41, Try.ntmps41
  go_wp2_with (at_builtin; refine wpList_append_all rfl (.tmp 5) (.tmp 6) 22 (by rfl) i0 (.agg ZSC) 130 Try.underlying22 HI.out.1 HI.out.2.1 HI.out.2.2.1 HI.out.2.2.2 ZSC_cells (by decide) w.heap.size HE.out (by rfl) (some ⟨b, o, none⟩) l.length sc (by rfl) l rfl HRD.out (secs_len HOK.out) (fun x _ => Sec.one x) (by omega) hn ?_; intro g cap cur w1 hge hown hfr)
  go_ret
  exact ⟨g, cap, cur, rfl, hge, hown, Fr.newG (Fr.alloc (Fr.refl _ _) _) hfr (Nat.le_refl _)⟩

theorem size_set (w : World) (a : Addr) (v : Value) : (w.setCell a v).heap.size = w.heap.size := by simp [World.setCell]
set_option maxHeartbeats 2000000 in
set_option maxRecDepth 100000 in
theorem copy_calls (d : Dk) (sa : Option Addr) (sc : Nat) (ca : Option Addr) (cc : Nat) (w : World) (hok : d.ok) (hv : DV w d sa sc ca cc) (hS : d.S.length * 130 ≤ 140737488355328) (hC : d.C.length * 136 ≤ 140737488355328) :
    Calls Try.prog 28 #[.agg (dval d sa sc ca cc)] w fun e w' => ∃ sa' sc' ca' cc', e = .returned (.agg (dval d sa' sc' ca' cc')) ∧ DV w' d sa' sc' ca' cc' ∧ Fr0 w w' := by
  obtain ⟨i0, hi, hz0, hz1, hz2⟩ := info_parts infoS
  have HI : Hid (Try.prog.info? 67 = some i0 ∧ i0.zero = some (.agg ZSC) ∧ i0.size = 130 ∧ i0.bytes = 130) := Lib.hid ⟨hi, hz0, hz1, hz2⟩
  clear hi hz0 hz1 hz2
  obtain ⟨i1, hi, hz0, hz1, hz2⟩ := info_parts infoW
  have HJ : Hid (Try.prog.info? 65 = some i1 ∧ i1.zero = some (.agg (Wri.mk 0 Z128).cells.toArray) ∧ i1.size = 129 ∧ i1.bytes = 136) := Lib.hid ⟨hi, hz0, hz1, hz2⟩
  clear hi hz0 hz1 hz2
  have hz : ∀ W, (zeroValue 25).run Try.prog W = .ok (.agg DZ) W := by intro W; kernel_rfl
  obtain ⟨SS, CC, ff, dd⟩ := d
  dsimp only [dval] at *
  have hs1 : (w.alloc (.cells (DC (.slice sa SS.length sc) (.slice ca CC.length cc) ff dd) 25)).heap.size = w.heap.size + 1 := by simp
  have hs2 : ((w.alloc (.cells (DC (.slice sa SS.length sc) (.slice ca CC.length cc) ff dd) 25)).alloc (.cells DZ 25)).heap.size = w.heap.size + 1 + 1 := by simp
  have HB0 : Hid (Bk (((w.alloc (.cells (DC (.slice sa SS.length sc) (.slice ca CC.length cc) ff dd) 25)).alloc (.cells DZ 25)).alloc (.cells #[] 67)) w.heap.size (DC (.slice sa SS.length sc) (.slice ca CC.length cc) ff dd) 25) := Lib.hid (Bk.alloc (Bk.alloc (Bk.new w _) _) _)
  have HR0 : Hid (Bk (((w.alloc (.cells (DC (.slice sa SS.length sc) (.slice ca CC.length cc) ff dd) 25)).alloc (.cells DZ 25)).alloc (.cells #[] 67)) (w.heap.size + 1) DZ 25) := Lib.hid (Bk.alloc (by have := Bk.new (w.alloc (.cells (DC (.slice sa SS.length sc) (.slice ca CC.length cc) ff dd) 25)) (.cells DZ 25); rwa [hs1] at this) _)
  have HE0 : Hid (Bk (((w.alloc (.cells (DC (.slice sa SS.length sc) (.slice ca CC.length cc) ff dd) 25)).alloc (.cells DZ 25)).alloc (.cells #[] 67)) (w.heap.size + 1 + 1) #[] 67) := Lib.hid (by have := Bk.new ((w.alloc (.cells (DC (.slice sa SS.length sc) (.slice ca CC.length cc) ff dd) 25)).alloc (.cells DZ 25)) (.cells #[] 67); rwa [hs2] at this)
  have HF0 : Hid (Fr0 w (((w.alloc (.cells (DC (.slice sa SS.length sc) (.slice ca CC.length cc) ff dd) 25)).alloc (.cells DZ 25)).alloc (.cells #[] 67))) := Lib.hid (Fr.alloc (Fr.alloc (Fr.alloc (Fr.refl _ _) _) _) _)
  have HRS : Hid (RdS (((w.alloc (.cells (DC (.slice sa SS.length sc) (.slice ca CC.length cc) ff dd) 25)).alloc (.cells DZ 25)).alloc (.cells #[] 67)) sa SS) := Lib.hid (RdG.keep hv.rs HF0.out)
  have HRC := Lib.hid hv.rc
  have HOS := Lib.hid hok.s
  have HOC := Lib.hid hok.c
  have hsm : SS.length ≤ 9223372036854775807 := by omega
  have hcm : CC.length ≤ 9223372036854775807 := by omega
  clear hs1 hs2 hok hv
  go_enter Try.func28, Try.ntmps28
  go_wp2_with (first | (at_builtin; refine wpList_append_all rfl (.tmp 3) (.tmp 5) 22 (by rfl) i0 (.agg ZSC) 130 Try.underlying22 HI.out.1 HI.out.2.1 HI.out.2.2.1 HI.out.2.2.2 ZSC_cells (by decide) (w.heap.size + 1 + 1) HE0.out (by rfl) sa SS.length sc (by rfl) SS rfl HRS.out (secs_len HOS.out) (fun x _ => Sec.one x) hsm hS ?_; intro g cap cur w1 hge hown hfr; have HO1 := Lib.hid hown; have HF1 := Lib.hid (Fr.newG HF0.out hfr (by omega)); have HB1 := Lib.hid (hfr.keep HB0.out (by omega)); have HR1 := Lib.hid (hfr.keep HR0.out (by omega)); have hlt1 : w.heap.size < w1.heap.size := Bk.lt HB1.out; have p0 : w1.cell? ⟨w.heap.size, 0, none⟩ = some (.slice sa SS.length sc) := Bk.cell HB1.out 0; have p1 : w1.cell? ⟨w.heap.size, 1, none⟩ = some (.slice ca CC.length cc) := Bk.cell HB1.out 1; have f0 := Bk.free HB1.out 0; have f1 := Bk.free HB1.out 1; have HGE := Lib.hid hge; clear hown hfr hge) | (at_builtin; refine wpList_append_all rfl (.tmp 8) (.tmp 10) 23 (by rfl) i1 (.agg (Wri.mk 0 Z128).cells.toArray) 136 Try.underlying23 HJ.out.1 HJ.out.2.1 HJ.out.2.2.1 HJ.out.2.2.2 ZWC_cells (by decide) w1.heap.size (by have := Bk.new (w1.setCell ⟨w.heap.size, 0, none⟩ (.slice (some ⟨g, 0, none⟩) SS.length cap)) (.cells #[] 65); rwa [size_set] at this) (by rfl) ca CC.length cc (by rfl) CC rfl (RdG.keep HRC.out (Fr.alloc (Fr.set HF1.out _ _ (.inl (Nat.le_refl _))) _)) (wris_len HOC.out) (fun x _ => Wri.one x) hcm hC ?_; intro g2 cap2 cur2 w2 hge2 hown2 hfr2; have HO2 := Lib.hid hown2; have HB2 : Hid (Bk w2 w.heap.size (DC (.slice (some ⟨g, 0, none⟩) SS.length cap) (.slice ca CC.length cc) ff dd) 25) := Lib.hid (hfr2.keep (Bk.alloc (Bk.set HB1.out 0 _) _) (by omega)); have HR2 : Hid (Bk w2 (w.heap.size + 1) DZ 25) := Lib.hid (hfr2.keep (Bk.alloc (Bk.setOther HR1.out _ _ (by simp)) _) (by have := Bk.lt HR1.out; omega)); have HO3 : Hid (OwnS w2 g cap cur SS) := Lib.hid (OwnG.keep (OwnG.keep HO1.out (S := fun i => i = w.heap.size) (w1 := (w1.setCell ⟨w.heap.size, 0, none⟩ (.slice (some ⟨g, 0, none⟩) SS.length cap)).alloc (.cells #[] 65)) (Fr.alloc (Fr.set1 _ _ _ _) _) (by have := HGE.out; omega)) hfr2 (by have := Bk.lt HO1.out.blk; omega)); have HF2 := Lib.hid (Fr.newG (Fr.alloc (Fr.set HF1.out ⟨w.heap.size, 0, none⟩ (.slice (some ⟨g, 0, none⟩) SS.length cap) (.inl (Nat.le_refl _))) (.cells #[] 65)) hfr2 (by omega)); have hlt2 : w.heap.size < w2.heap.size := Bk.lt HB2.out; have HG2 : Hid (w1.heap.size ≤ g2) := Lib.hid hge2; have r1 : w2.cell? ⟨w.heap.size, 1, none⟩ = some (.slice ca CC.length cc) := Bk.cell HB2.out 1; have f21 := Bk.free HB2.out 1; have HB3 : Hid (Bk (w2.setCell ⟨w.heap.size, 1, none⟩ (.slice (some ⟨g2, 0, none⟩) CC.length cap2)) w.heap.size (DC (.slice (some ⟨g, 0, none⟩) SS.length cap) (.slice (some ⟨g2, 0, none⟩) CC.length cap2) ff dd) 25) := Lib.hid (Bk.set HB2.out 1 _); have HR3 : Hid (Bk (w2.setCell ⟨w.heap.size, 1, none⟩ (.slice (some ⟨g2, 0, none⟩) CC.length cap2)) (w.heap.size + 1) DZ 25) := Lib.hid (Bk.setOther HR2.out _ _ (by simp)); clear hown2 hfr2 hge2) | ((with_reducible show wpList _ _ _ ({ dst := _, op := Op.load 25 _, type := _, pos := _, after := _, guard := _ } :: _) _ _); refine wpList_load_row rfl 25 _ rfl w.heap.size rfl 25 _ (0, 0) _ HB3.out Try.underlying25 rfl info_d ?_) | ((with_reducible show wpList _ _ _ ({ dst := _, op := Op.store 25 _ _, type := _, pos := _, after := _, guard := _ } :: _) _ _); refine wpList_store_row rfl 25 _ _ rfl (w.heap.size + 1) (DC (.slice (some ⟨g, 0, none⟩) SS.length cap) (.slice (some ⟨g2, 0, none⟩) CC.length cap2) ff dd) rfl rfl 25 DZ HR3.out info_d rfl (DC_one _ _ _ _ _ _ _ _) ?_))
  refine fin_c (w.heap.size + 1) 25 (DC (.slice (some ⟨g, 0, none⟩) SS.length cap) (.slice (some ⟨g2, 0, none⟩) CC.length cap2) ff dd) (by rfl) (by rfl) (by rfl) Try.underlying25 (by rfl) info_d (ArrKit.Bk.row HR3.out _) ?_
  have k0 := HGE.out
  have k2 := HG2.out
  have k3 := Bk.lt HR1.out
  have HO4 := OwnG.keep (S := fun i => i = w.heap.size) HO3.out (Fr.set1 w2 w.heap.size 1 (.slice (some ⟨g2, 0, none⟩) CC.length cap2)) (by omega)
  have HO5 := OwnG.keep (S := fun i => i = w.heap.size) HO2.out (Fr.set1 w2 w.heap.size 1 (.slice (some ⟨g2, 0, none⟩) CC.length cap2)) (by omega)
  have fr := ArrKit.Fr.row (Fr.refl (fun i => i = w.heap.size + 1) (w2.setCell ⟨w.heap.size, 1, none⟩ (.slice (some ⟨g2, 0, none⟩) CC.length cap2))) (w.heap.size + 1) (DC (.slice (some ⟨g, 0, none⟩) SS.length cap) (.slice (some ⟨g2, 0, none⟩) CC.length cap2) ff dd) (.inr rfl)
  have HO6 := OwnG.keep HO4 fr (by omega)
  have HO7 := OwnG.keep HO5 fr (by omega)
  exact ⟨some ⟨g, 0, none⟩, cap, some ⟨g2, 0, none⟩, cap2, rfl, ⟨HO6.rd, HO7.rd, HO6.room, HO6.max, HO7.room, HO7.max⟩, ArrKit.Fr.row (Fr.set HF2.out _ _ (.inl (Nat.le_refl _))) _ _ (.inl (by omega))⟩

end Go.Proofs.Ytboakipfhidkmaa.DiskCopy
