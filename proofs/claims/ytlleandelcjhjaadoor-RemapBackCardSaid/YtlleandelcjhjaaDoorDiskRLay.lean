/- The kept writes last: the walk of the reference's lay. -/
import Derived.Test.YtlleandelcjhjaaDoorDiskFlush
set_option linter.unusedVariables false
set_option linter.unusedSimpArgs false
namespace Go.Proofs.YtlleandelcjhjaaDoor.DiskRLay
open Go Go.RowKit Go.Proofs.YtlleandelcjhjaaDoor.K Go.Proofs.YtlleandelcjhjaaDoor.EqKit Go.Proofs.YtlleandelcjhjaaDoor.ArrKit Go.Proofs.YtlleandelcjhjaaDoor.HeldKit Go.Proofs.YtlleandelcjhjaaDoor.GKit Go.Proofs.YtlleandelcjhjaaDoor.GRow Go.Proofs.YtlleandelcjhjaaDoor.DiskKit Go.Proofs.YtlleandelcjhjaaDoor.DiskAsk Go.Proofs.YtlleandelcjhjaaDoor.DiskForm Go.Proofs.YtlleandelcjhjaaDoor.DiskAct Go.Proofs.YtlleandelcjhjaaDoor.DiskNew Go.Proofs.YtlleandelcjhjaaDoor.DiskCopy Go.Proofs.YtlleandelcjhjaaDoor.DiskLay Go.Proofs.YtlleandelcjhjaaDoor.DiskFlush

theorem rangeAt_fr {S : Nat → Prop} {w w' : World} {b o : Nat} {cs : List Value} (h : w.rangeAt b o cs) (f : Fr S w w') (hs : ¬ S b) : w'.rangeAt b o cs := fun j u hj => by
  have hc := h j u hj
  rw [f.cell b (o + j) (World.block_lt_of_cell? w _ hc) hs]
  exact hc

set_option maxHeartbeats 2000000 in
set_option maxRecDepth 100000 in
theorem rlay_all_calls (p : Nat) (d : Dk) (sa : Option Addr) (sc : Nat) (ca : Option Addr) (cc : Nat) (w : World) (hok : d.ok) (hv : DAt w p d sa sc ca cc) (hr : formedB d = true)  : Calls Tryd.prog 79 #[.pointer (some ⟨p, 0, none⟩), .bool true, .slice none 0 0] w fun e w' => (∃ v, e = .returned v) ∧ Laid w w' p (layD d (fun _ => true)) := by
  have hfm := formed_parts hr
  have HV := Lib.hid hv
  have HOK := Lib.hid hok
  have hcn := hv.v.cn
  have hcm := hv.v.cm
  have hn1 := hfm.1
  have hn2 := hfm.2.1
  have HPOS := Lib.hid hfm.2.2
  have hpw : p < w.heap.size := Bk.lt hv.blk
  obtain ⟨i0, hi, hz0, hz1, hz2⟩ := info_parts infoS
  have HI : Hid (Tryd.prog.info? 59 = some i0 ∧ i0.zero = some (.agg ZSC) ∧ i0.size = 130 ∧ i0.bytes = 130) := Lib.hid ⟨hi, hz0, hz1, hz2⟩
  clear hi hz0 hz1 hz2
  clear hv hok hr hfm
  obtain ⟨SS, CC, ff, dd⟩ := d
  dsimp only at *
  have HF00 : Hid (Fr0 w (w.alloc (.cells #[] 59))) := Lib.hid (Fr.alloc (Fr.refl _ _) _)
  have q0 : w.cell? ⟨p, 0, none⟩ = some (.slice sa SS.length sc) := Bk.cell HV.out.blk 0
  have HRS : Hid (RdS (w.alloc (.cells #[] 59)) sa SS) := Lib.hid (RdG.keep HV.out.v.rs HF00.out)
  have HE0 : Hid (Bk (w.alloc (.cells #[] 59)) w.heap.size #[] 59) := Lib.hid (Bk.new w _)
  have hsn1 : SS.length ≤ 9223372036854775807 := by omega
  have hsn2 : SS.length * 130 ≤ 140737488355328 := by omega
  have W1n : True := trivial
  go_enter Tryd.func79, Tryd.ntmps79
  go_wp2_with (at_builtin; refine wpList_append_all rfl (.tmp 8) (.tmp 12) 36 (by rfl) i0 (.agg ZSC) 130 Tryd.underlying36 HI.out.1 HI.out.2.1 HI.out.2.2.1 HI.out.2.2.2 ZSC_cells (by decide) w.heap.size HE0.out (by rfl) sa SS.length sc (by rfl) SS rfl HRS.out (secs_len HOK.out.s) (fun x _ => Sec.one x) hsn1 hsn2 ?_; intro g cap cur w1 hge hown hfr; have hfr2 := Fr.newG HF00.out hfr (Nat.le_refl _); have hp1 : p < w1.heap.size := hfr2.lt hpw; have p0 : w1.cell? ⟨p, 0, none⟩ = some (.slice sa SS.length sc) := (hfr2.cell p 0 hpw (fun h => h)).trans q0; have g0 : w1.frozen? ⟨p, 0, none⟩ = false := (hfr2.froz p 0 hpw (fun h => h)).trans (Bk.free HV.out.blk 0); have HB1 : Hid (Bk (w1.setCell ⟨p, 0, none⟩ (.slice (some ⟨g, 0, none⟩) SS.length cap)) p (DC (.slice (some ⟨g, 0, none⟩) SS.length cap) (.slice ca CC.length cc) ff dd) 39) := Lib.hid (Bk.set (hfr2.keep HV.out.blk (fun h => h)) 0 _); have HO1 : Hid (OwnS (w1.setCell ⟨p, 0, none⟩ (.slice (some ⟨g, 0, none⟩) SS.length cap)) g cap cur SS) := Lib.hid (OwnG.keep hown (Fr.set1 _ _ _ _) (by omega)); have HF1 : Hid (Fr (fun i => i = p) w (w1.setCell ⟨p, 0, none⟩ (.slice (some ⟨g, 0, none⟩) SS.length cap))) := Lib.hid (Fr.set (hfr2.weaken (fun _ _ h => h.elim)) _ _ (.inr rfl)); have HGE := Lib.hid hge; clear hfr hown hge hfr2)
  clear q0 p0 g0
  generalize hw0 : w1.setCell _ _ = w0 at *
  clear hw0 hp1
  go_loopw [6] (fun i wr => ∃ k cur, k ≤ CC.length ∧ i = .int .i64 (k : Nat) ∧ OwnS wr g cap cur (laid SS CC (fun _ => true) k) ∧ Bk wr p (DC (.slice (some ⟨g, 0, none⟩) SS.length cap) (.slice ca CC.length cc) ff dd) 39 ∧ Fr (fun i => i = p) w wr) (fun i _ => CC.length - (intOf i).toNat)
  case atStart => exact ⟨0, cur, Nat.zero_le _, rfl, HO1.out, HB1.out, HF1.out⟩
  case round =>
    clear HB1 HO1 HF1
    obtain ⟨k, cur, hk, rfl, hO, hB, hF⟩ := hrel
    have HOR := Lib.hid hO
    have HBR := Lib.hid hB
    have HFR := Lib.hid hF
    have hgr := Bk.lt hO.blk
    have hpr := Bk.lt hB
    clear hO hB hF
    have p1 : wr.cell? ⟨p, 1, none⟩ = some (.slice ca CC.length cc) := Bk.cell HBR.out 1
    have g1 := Bk.free HBR.out 1
    by_cases hlt : k < CC.length
    · have hgp : g ≠ p := by have := HGE.out; omega
      have HKV : Hid (True) := Lib.hid trivial
      have hb0 := HV.out.v.rc k hlt
      obtain ⟨b, o, rfl, hrg0⟩ := hb0
      have hbw : b < w.heap.size := World.block_lt_of_cell? w _ (hrg0 0 _ (Wri.pos_at _))
      have hbg : b ≠ g := by have := HGE.out; omega
      have HRG := Lib.hid ((RdC.past HV.out.v.rc HOK.out.c HFR.out HV.out.blk (dval_no _ _ _ _ _)).at hlt)
      have HX := Lib.hid (HOK.out.c _ (List.getElem_mem hlt))
      obtain ⟨q, hq⟩ : ∃ q : Nat, CC[k].pos = (q : Int) := ⟨CC[k].pos.toNat, by have := HPOS.out k hlt; omega⟩
      have hqn : q < SS.length := by have := HPOS.out k hlt; omega
      have HQ := Lib.hid hq
      clear hrg0 hq
      go_wp2
      have hqo : q * 130 + 130 ≤ cur.size := by have h1 := HOR.out.size; have h2 := HOR.out.room; rw [laid_len] at h2; omega
      have hck : ((k : Int)).toNat = k := by omega
      have HST : Hid (Stand [(p, .cells (DC (.slice (some ⟨g, 0, none⟩) SS.length cap) (.slice (some ⟨b, o, none⟩) CC.length cc) ff dd) 39 (0, 0))] wr) := Lib.hid (Stand.cons HBR.out (Stand.nil _))
      have HBd : Hid (Bk wr.drew p (DC (.slice (some ⟨g, 0, none⟩) SS.length cap) (.slice (some ⟨b, o, none⟩) CC.length cc) ff dd) 39) := Lib.hid HBR.out
      have HGd : Hid (Bk wr.drew g cur 59) := Lib.hid HOR.out.blk
      have HFd : Hid (Fr (fun i => i = p) w wr.drew) := Lib.hid (Fr.drew HFR.out)
      have HX0 : Hid (∀ W : World, W.rangeAt b (o + k * 129) CC[k].cells → W.cell? ⟨b, o + k * 129, none⟩ = some (.int .i64 (q : Int))) := Lib.hid (fun W h => by rw [← HQ.out]; exact h 0 _ (Wri.pos_at _))
      have HXD : Hid (∀ W : World, W.rangeAt b (o + k * 129) CC[k].cells → W.rangeAt b (o + k * 129 + 1) (CC[k].data.map B)) := Lib.hid (fun W h j u hj => by
        have := h (j + 1) u (by rw [Wri.data_at]; exact hj)
        rw [Nat.add_assoc (o + k * 129) 1 j, Nat.add_comm 1 j]
        exact this)
      have HIB : Hid ((Tryd.prog.info? 27).map (·.size) = some (CC[k].data.map B).length) := Lib.hid (by rw [List.length_map, HX.out.len, info_b])
      have HIC : Hid ((Tryd.prog.info? 27).map (·.size) = some (CC[k].data.map B).toArray.size) := Lib.hid (by rw [List.size_toArray, List.length_map, HX.out.len, info_b])
      have HOB : Hid ((CC[k].data.map B).toArray.all (·.oneCell') = true) := Lib.hid (by simp [B, Value.oneCell'])
      have HTH : Hid (wr.drew.there g (q * 130) (CC[k].data.map B).toArray.size) := Lib.hid (there_bk HGd.out _ _ (by rw [List.size_toArray, List.length_map, HX.out.len]; omega))
      have HOO := Lib.hid HOR.out
      clear HBR HOR p1 g1
      refine wp_region_noPanic ?_
      refine wp_region_held_drew (S := (fun W => Stand [(p, .cells (DC (.slice (some ⟨g, 0, none⟩) SS.length cap) (.slice (some ⟨b, o, none⟩) CC.length cc) ff dd) 39 (0, 0))] W ∧ W.rangeAt b (o + k * 129) CC[k].cells)) (by kernel_rfl) (⟨Stand.drew HST.out, HRG.out⟩) (fun hHeld0 => ?_)
      generalize wr.drew = wd at *
      refine tk0 (i := 0) (v := .pointer (some ⟨p, 0, none⟩)) rfl hHeld0 ?_
      simp only [Act.put, zA, zB, zC, zD, zE, zF]
      refine tk0 (i := 1) (v := .pointer (some ⟨p, 0, none⟩)) rfl hHeld0 ?_
      simp only [Act.put, zA, zB, zC, zD, zE, zF]
      refine tk0 (i := 2) (v := .pointer (some ⟨p, 0, none⟩)) rfl hHeld0 ?_
      simp only [Act.put, zA, zB, zC, zD, zE, zF]
      refine tk (i := 3) (v := .slice (some ⟨g, 0, none⟩) SS.length cap) rfl (Or.inl ⟨by kernel_rfl, fun w hSw => by have hcl := (fun W h => Bk.cell (Stand.a0 h.1) 0) w hSw; go_simp⟩) hHeld0 ?_
      simp only [Act.put, zA, zB, zC, zD, zE, zF]
      refine tk0 (i := 4) (v := .pointer (some ⟨p, 0, none⟩)) rfl hHeld0 ?_
      simp only [Act.put, zA, zB, zC, zD, zE, zF]
      refine tk0 (i := 5) (v := .pointer (some ⟨p, 0, none⟩)) rfl hHeld0 ?_
      simp only [Act.put, zA, zB, zC, zD, zE, zF]
      refine tk0 (i := 6) (v := .pointer (some ⟨p, 1, none⟩)) rfl hHeld0 ?_
      simp only [Act.put, zA, zB, zC, zD, zE, zF]
      refine tk (i := 7) (v := .slice (some ⟨b, o, none⟩) CC.length cc) rfl (Or.inl ⟨by kernel_rfl, fun w hSw => by have hcl := (fun W h => Bk.cell (Stand.a0 h.1) 1) w hSw; go_simp⟩) hHeld0 ?_
      simp only [Act.put, zA, zB, zC, zD, zE, zF]
      refine tk0 (i := 8) (v := .int .i64 (k : Int)) rfl hHeld0 ?_
      simp only [Act.put, zA, zB, zC, zD, zE, zF]
      refine tk (i := 9) (v := .pointer (some ⟨b, o + k * 129, none⟩)) rfl (Or.inl ⟨by kernel_rfl, fun w hSw => by go_simp⟩) hHeld0 ?_
      simp only [Act.put, zA, zB, zC, zD, zE, zF]
      refine tk0 (i := 10) (v := .pointer (some ⟨b, o + k * 129, none⟩)) rfl hHeld0 ?_
      simp only [Act.put, zA, zB, zC, zD, zE, zF]
      refine tk (i := 11) (v := .int .i64 (q : Int)) rfl (Or.inl ⟨by kernel_rfl, fun w hSw => by have hcl := (fun W h => HX0.out _ h.2) w hSw; go_simp⟩) hHeld0 ?_
      simp only [Act.put, zA, zB, zC, zD, zE, zF]
      refine tk0 (i := 12) (v := .pointer (some ⟨p, 0, none⟩)) rfl hHeld0 ?_
      simp only [Act.put, zA, zB, zC, zD, zE, zF]
      refine tk0 (i := 13) (v := .pointer (some ⟨p, 0, none⟩)) rfl hHeld0 ?_
      simp only [Act.put, zA, zB, zC, zD, zE, zF]
      refine tk0 (i := 14) (v := .pointer (some ⟨p, 1, none⟩)) rfl hHeld0 ?_
      simp only [Act.put, zA, zB, zC, zD, zE, zF]
      refine tk (i := 15) (v := .slice (some ⟨b, o, none⟩) CC.length cc) rfl (Or.inl ⟨by kernel_rfl, fun w hSw => by have hcl := (fun W h => Bk.cell (Stand.a0 h.1) 1) w hSw; go_simp⟩) hHeld0 ?_
      simp only [Act.put, zA, zB, zC, zD, zE, zF]
      refine tk0 (i := 16) (v := .int .i64 (k : Int)) rfl hHeld0 ?_
      simp only [Act.put, zA, zB, zC, zD, zE, zF]
      refine tk (i := 17) (v := .pointer (some ⟨b, o + k * 129, none⟩)) rfl (Or.inl ⟨by kernel_rfl, fun w hSw => by go_simp⟩) hHeld0 ?_
      simp only [Act.put, zA, zB, zC, zD, zE, zF]
      refine tk0 (i := 18) (v := .pointer (some ⟨b, o + k * 129 + 1, none⟩)) rfl hHeld0 ?_
      simp only [Act.put, zA, zB, zC, zD, zE, zF]
      refine tk (i := 19) (v := .agg (CC[k].data.map B).toArray) rfl (yieldsIf_load_mid (by kernel_rfl) 27 _ rfl b (o + k * 129 + 1) rfl (CC[k].data.map B) _ (fun W h => HXD.out W h.2) Tryd.underlying27 rfl HIB.out) hHeld0 ?_
      simp only [Act.put, zA, zB, zC, zD, zE, zF]
      refine tk (i := 20) (v := .pointer (some ⟨g, q * 130, none⟩)) rfl (Or.inl ⟨by kernel_rfl, fun w hSw => by go_simp⟩) hHeld0 ?_
      simp only [Act.put, zA, zB, zC, zD, zE, zF]
      refine tk0 (i := 21) (v := .pointer (some ⟨g, q * 130, none⟩)) rfl hHeld0 ?_
      simp only [Act.put, zA, zB, zC, zD, zE, zF]
      change wpAnyH _ _ _ _ _ 1 #[true, true, true, true, true, true, true, true, true, true, true, true, true, true, true, true, true, true, true, true, true, true, false] _ _
      refine wpAnyH_ready (rs := [22]) (by kernel_rfl) (by simp) ?_
      refine AllReadyH.cons rfl (fun K hK => ?_) AllReadyH.nil
      simp only [zA, zB, zC]
      refine (if_pos (by kernel_rfl)).mpr ?_
      refine wp_store_mid 27 _ _ rfl g (q * 130) (CC[k].data.map B).toArray rfl rfl HTH.out HIC.out HOB.out ?_
      refine hK.out _ _ (⟨Stand.fr hHeld0.1 (Fr.sets1 _ _ _ _) (fun r hr => by simp only [List.mem_cons, List.not_mem_nil, or_false] at hr; subst hr; exact hgp.symm), rangeAt_fr hHeld0.2 (Fr.sets1 _ _ _ _) hbg⟩) (fun hHeld1 => ?_)
      clear hK K hHeld0
      have HG3 : Hid (Bk (wd.setCells g (q * 130) (CC[k].data.map B).toArray.toList) g (lyc cur (q * 130) (CC[k].data.map B)) 59) := Lib.hid (sets_bk _ _ _ _ HGd.out)
      have HB3 : Hid (Bk (wd.setCells g (q * 130) (CC[k].data.map B).toArray.toList) p (DC (.slice (some ⟨g, 0, none⟩) SS.length cap) (.slice (some ⟨b, o, none⟩) CC.length cc) ff dd) 39) := Lib.hid ((Fr.sets1 wd g (q * 130) _).keep HBd.out hgp.symm)
      have HF3 : Hid (Fr (fun i => i = p) w (wd.setCells g (q * 130) (CC[k].data.map B).toArray.toList)) := Lib.hid (Fr.newG HFd.out (Fr.sets1 wd g (q * 130) _) HGE.out)
      generalize (wd.setCells g (q * 130) (CC[k].data.map B).toArray.toList) = w3 at *
      change wpAnyH _ _ _ _ _ 0 #[true, true, true, true, true, true, true, true, true, true, true, true, true, true, true, true, true, true, true, true, true, true, true] _ _
      refine wpAnyH_done (by kernel_rfl) ?_ _
      refine NoPanic.normal ?_
      have HEND := Lib.hid hHeld1
      clear hHeld1
      have hs3 : (lyc cur (q * 130) (CC[k].data.map B)).size = cur.size := lay_size _ _ _
      go_wp2_with fail
      clear HST
      have HST := Lib.hid HEND.out
      have HBe : Hid (Bk w3.drew p (DC (.slice (some ⟨g, 0, none⟩) SS.length cap) (.slice (some ⟨b, o, none⟩) CC.length cc) ff dd) 39) := Lib.hid HB3.out
      have HGe : Hid (Bk w3.drew g (lyc cur (q * 130) (CC[k].data.map B)) 59) := Lib.hid HG3.out
      have HFe : Hid (Fr (fun i => i = p) w w3.drew) := Lib.hid (Fr.drew HF3.out)
      clear HEND HB3 HG3 HF3
      refine wp_region_noPanic ?_
      refine wp_region_held_drew (S := (fun W => Stand [(p, .cells (DC (.slice (some ⟨g, 0, none⟩) SS.length cap) (.slice (some ⟨b, o, none⟩) CC.length cc) ff dd) 39 (0, 0))] W ∧ W.rangeAt b (o + k * 129) CC[k].cells)) (by kernel_rfl) (⟨Stand.drew HST.out.1, HST.out.2⟩) (fun hHeld0 => ?_)
      generalize w3.drew = we at *
      refine tk0 (i := 0) (v := .pointer (some ⟨p, 0, none⟩)) rfl hHeld0 ?_
      simp only [Act.put, zA, zB, zC, zD, zE, zF]
      refine tk0 (i := 1) (v := .pointer (some ⟨p, 0, none⟩)) rfl hHeld0 ?_
      simp only [Act.put, zA, zB, zC, zD, zE, zF]
      refine tk0 (i := 2) (v := .pointer (some ⟨p, 0, none⟩)) rfl hHeld0 ?_
      simp only [Act.put, zA, zB, zC, zD, zE, zF]
      refine tk (i := 3) (v := .slice (some ⟨g, 0, none⟩) SS.length cap) rfl (Or.inl ⟨by kernel_rfl, fun w hSw => by have hcl := (fun W h => Bk.cell (Stand.a0 h.1) 0) w hSw; go_simp⟩) hHeld0 ?_
      simp only [Act.put, zA, zB, zC, zD, zE, zF]
      refine tk0 (i := 4) (v := .pointer (some ⟨p, 0, none⟩)) rfl hHeld0 ?_
      simp only [Act.put, zA, zB, zC, zD, zE, zF]
      refine tk0 (i := 5) (v := .pointer (some ⟨p, 0, none⟩)) rfl hHeld0 ?_
      simp only [Act.put, zA, zB, zC, zD, zE, zF]
      refine tk0 (i := 6) (v := .pointer (some ⟨p, 1, none⟩)) rfl hHeld0 ?_
      simp only [Act.put, zA, zB, zC, zD, zE, zF]
      refine tk (i := 7) (v := .slice (some ⟨b, o, none⟩) CC.length cc) rfl (Or.inl ⟨by kernel_rfl, fun w hSw => by have hcl := (fun W h => Bk.cell (Stand.a0 h.1) 1) w hSw; go_simp⟩) hHeld0 ?_
      simp only [Act.put, zA, zB, zC, zD, zE, zF]
      refine tk0 (i := 8) (v := .int .i64 (k : Int)) rfl hHeld0 ?_
      simp only [Act.put, zA, zB, zC, zD, zE, zF]
      refine tk (i := 9) (v := .pointer (some ⟨b, o + k * 129, none⟩)) rfl (Or.inl ⟨by kernel_rfl, fun w hSw => by go_simp⟩) hHeld0 ?_
      simp only [Act.put, zA, zB, zC, zD, zE, zF]
      refine tk0 (i := 10) (v := .pointer (some ⟨b, o + k * 129, none⟩)) rfl hHeld0 ?_
      simp only [Act.put, zA, zB, zC, zD, zE, zF]
      refine tk (i := 11) (v := .int .i64 (q : Int)) rfl (Or.inl ⟨by kernel_rfl, fun w hSw => by have hcl := (fun W h => HX0.out _ h.2) w hSw; go_simp⟩) hHeld0 ?_
      simp only [Act.put, zA, zB, zC, zD, zE, zF]
      refine tk (i := 12) (v := .pointer (some ⟨g, q * 130, none⟩)) rfl (Or.inl ⟨by kernel_rfl, fun w hSw => by go_simp⟩) hHeld0 ?_
      simp only [Act.put, zA, zB, zC, zD, zE, zF]
      refine tk0 (i := 13) (v := .pointer (some ⟨g, q * 130 + 128, none⟩)) rfl hHeld0 ?_
      simp only [Act.put, zA, zB, zC, zD, zE, zF]
      change wpAnyH _ _ _ _ _ 1 #[true, true, true, true, true, true, true, true, true, true, true, true, true, true, false] _ _
      refine wpAnyH_ready (rs := [14]) (by kernel_rfl) (by simp) ?_
      refine AllReadyH.cons rfl (fun K hK => ?_) AllReadyH.nil
      simp only [zA, zB, zC]
      refine (if_pos (by kernel_rfl)).mpr ?_
      obtain ⟨u9, hu9⟩ : ∃ u, we.cell? ⟨g, q * 130 + 128, none⟩ = some u := ⟨_, (Bk.cell HGe.out _).trans (Array.getElem?_eq_getElem (by omega))⟩
      have hf9 := Bk.free HGe.out (q * 130 + 128)
      go_wp2_with fail
      clear hu9 hf9
      have HG4 : Hid (Bk (we.setCell ⟨g, q * 130 + 128, none⟩ (.bool false)) g ((lyc cur (q * 130) (CC[k].data.map B)).setIfInBounds (q * 130 + 128) (.bool false)) 59) := Lib.hid (Bk.set HGe.out _ _)
      have HB4 : Hid (Bk (we.setCell ⟨g, q * 130 + 128, none⟩ (.bool false)) p (DC (.slice (some ⟨g, 0, none⟩) SS.length cap) (.slice (some ⟨b, o, none⟩) CC.length cc) ff dd) 39) := Lib.hid ((Fr.set1 we g (q * 130 + 128) _).keep HBe.out hgp.symm)
      have HF4 : Hid (Fr (fun i => i = p) w (we.setCell ⟨g, q * 130 + 128, none⟩ (.bool false))) := Lib.hid (Fr.newG HFe.out (Fr.set1 we g (q * 130 + 128) _) HGE.out)
      refine hK.out _ _ (⟨Stand.fr hHeld0.1 (Fr.set1 _ _ _ _) (fun r hr => by simp only [List.mem_cons, List.not_mem_nil, or_false] at hr; subst hr; exact hgp.symm), rangeAt_fr hHeld0.2 (Fr.set1 _ _ _ _) hbg⟩) (fun hHeld1 => ?_)
      clear hK K hHeld0
      generalize (we.setCell ⟨g, q * 130 + 128, none⟩ (.bool false)) = wy0 at *
      change wpAnyH _ _ _ _ _ 0 #[true, true, true, true, true, true, true, true, true, true, true, true, true, true, true] _ _
      refine wpAnyH_done (by kernel_rfl) ?_ _
      refine NoPanic.normal ?_
      have HEND := Lib.hid hHeld1
      clear hHeld1
      go_wp2_with fail
      go_roundw
      case rel => exact ⟨k + 1, _, by omega, by go_num, by
        rw [laid_succ hlt, if_pos rfl, HQ.out, Int.toNat_natCast]
        exact OwnS.lay1 HOO.out (laid_ok HOK.out.s HOK.out.c k) (by rw [laid_len]; exact hqn) CC[k] HX.out HG4.out, HB4.out, HF4.out⟩
      case measure => simp [intOf]; omega
    · obtain rfl : k = CC.length := by omega
      clear hlt
      go_wp2
      go_end0
      refine ⟨⟨_, rfl⟩, ⟨some ⟨g, 0, none⟩, cap, ?_, ?_⟩, Fr.set HFR.out _ _ (.inr rfl)⟩
      · have := Bk.set HBR.out 1 (.slice none 0 0)
        simp only [layD, dval, laid_len]
        exact this
      · have hgp : g ≠ p := by have := HGE.out; omega
        have := OwnG.keep HOR.out (Fr.set1 wr p 1 (.slice none 0 0)) hgp
        exact ⟨this.rd, RdG.nil _ _, this.room, this.max, Nat.le_refl _, by omega⟩

set_option maxHeartbeats 2000000 in
set_option maxRecDepth 100000 in
theorem rlay_keep_calls (ka : Option Addr) (kc : Nat) (keep : List Bool) (p : Nat) (d : Dk) (sa : Option Addr) (sc : Nat) (ca : Option Addr) (cc : Nat) (w : World) (hok : d.ok) (hv : DAt w p d sa sc ca cc) (hr : formedB d = true) (hkc : keep.length ≤ kc) (hkm : kc ≤ 9223372036854775807) (hrd : RdB w ka keep) (hkp : ∀ a, ka = some a → keep ≠ [] → a.block ≠ p) : Calls Tryd.prog 79 #[.pointer (some ⟨p, 0, none⟩), .bool false, .slice ka keep.length kc] w fun e w' => (∃ v, e = .returned v) ∧ Laid w w' p (layD d (fun i => keep.getD i false)) := by
  have hfm := formed_parts hr
  have HV := Lib.hid hv
  have HOK := Lib.hid hok
  have hcn := hv.v.cn
  have hcm := hv.v.cm
  have hn1 := hfm.1
  have hn2 := hfm.2.1
  have HPOS := Lib.hid hfm.2.2
  have hpw : p < w.heap.size := Bk.lt hv.blk
  have HRD := Lib.hid hrd
  have HKP := Lib.hid hkp
  clear hrd hkp
  obtain ⟨i0, hi, hz0, hz1, hz2⟩ := info_parts infoS
  have HI : Hid (Tryd.prog.info? 59 = some i0 ∧ i0.zero = some (.agg ZSC) ∧ i0.size = 130 ∧ i0.bytes = 130) := Lib.hid ⟨hi, hz0, hz1, hz2⟩
  clear hi hz0 hz1 hz2
  clear hv hok hr hfm
  obtain ⟨SS, CC, ff, dd⟩ := d
  dsimp only at *
  have HF00 : Hid (Fr0 w (w.alloc (.cells #[] 59))) := Lib.hid (Fr.alloc (Fr.refl _ _) _)
  have q0 : w.cell? ⟨p, 0, none⟩ = some (.slice sa SS.length sc) := Bk.cell HV.out.blk 0
  have HRS : Hid (RdS (w.alloc (.cells #[] 59)) sa SS) := Lib.hid (RdG.keep HV.out.v.rs HF00.out)
  have HE0 : Hid (Bk (w.alloc (.cells #[] 59)) w.heap.size #[] 59) := Lib.hid (Bk.new w _)
  have hsn1 : SS.length ≤ 9223372036854775807 := by omega
  have hsn2 : SS.length * 130 ≤ 140737488355328 := by omega
  have W1n : True := trivial
  go_enter Tryd.func79, Tryd.ntmps79
  go_wp2_with (at_builtin; refine wpList_append_all rfl (.tmp 8) (.tmp 12) 36 (by rfl) i0 (.agg ZSC) 130 Tryd.underlying36 HI.out.1 HI.out.2.1 HI.out.2.2.1 HI.out.2.2.2 ZSC_cells (by decide) w.heap.size HE0.out (by rfl) sa SS.length sc (by rfl) SS rfl HRS.out (secs_len HOK.out.s) (fun x _ => Sec.one x) hsn1 hsn2 ?_; intro g cap cur w1 hge hown hfr; have hfr2 := Fr.newG HF00.out hfr (Nat.le_refl _); have hp1 : p < w1.heap.size := hfr2.lt hpw; have p0 : w1.cell? ⟨p, 0, none⟩ = some (.slice sa SS.length sc) := (hfr2.cell p 0 hpw (fun h => h)).trans q0; have g0 : w1.frozen? ⟨p, 0, none⟩ = false := (hfr2.froz p 0 hpw (fun h => h)).trans (Bk.free HV.out.blk 0); have HB1 : Hid (Bk (w1.setCell ⟨p, 0, none⟩ (.slice (some ⟨g, 0, none⟩) SS.length cap)) p (DC (.slice (some ⟨g, 0, none⟩) SS.length cap) (.slice ca CC.length cc) ff dd) 39) := Lib.hid (Bk.set (hfr2.keep HV.out.blk (fun h => h)) 0 _); have HO1 : Hid (OwnS (w1.setCell ⟨p, 0, none⟩ (.slice (some ⟨g, 0, none⟩) SS.length cap)) g cap cur SS) := Lib.hid (OwnG.keep hown (Fr.set1 _ _ _ _) (by omega)); have HF1 : Hid (Fr (fun i => i = p) w (w1.setCell ⟨p, 0, none⟩ (.slice (some ⟨g, 0, none⟩) SS.length cap))) := Lib.hid (Fr.set (hfr2.weaken (fun _ _ h => h.elim)) _ _ (.inr rfl)); have HGE := Lib.hid hge; clear hfr hown hge hfr2)
  clear q0 p0 g0
  generalize hw0 : w1.setCell _ _ = w0 at *
  clear hw0 hp1
  go_loopw [6] (fun i wr => ∃ k cur, k ≤ CC.length ∧ i = .int .i64 (k : Nat) ∧ OwnS wr g cap cur (laid SS CC (fun i => keep.getD i false) k) ∧ Bk wr p (DC (.slice (some ⟨g, 0, none⟩) SS.length cap) (.slice ca CC.length cc) ff dd) 39 ∧ Fr (fun i => i = p) w wr) (fun i _ => CC.length - (intOf i).toNat)
  case atStart => exact ⟨0, cur, Nat.zero_le _, rfl, HO1.out, HB1.out, HF1.out⟩
  case round =>
    clear HB1 HO1 HF1
    obtain ⟨k, cur, hk, rfl, hO, hB, hF⟩ := hrel
    have HOR := Lib.hid hO
    have HBR := Lib.hid hB
    have HFR := Lib.hid hF
    have hgr := Bk.lt hO.blk
    have hpr := Bk.lt hB
    clear hO hB hF
    have p1 : wr.cell? ⟨p, 1, none⟩ = some (.slice ca CC.length cc) := Bk.cell HBR.out 1
    have g1 := Bk.free HBR.out 1
    by_cases hlt : k < CC.length
    · have hgp : g ≠ p := by have := HGE.out; omega
      by_cases hkl : k < keep.length
      · obtain ⟨kb, ko, rfl, hkc2⟩ := RdB.cell (RdG.later HRD.out HFR.out HKP.out) hkl
        cases hkk : keep.getD k false with
        | false =>
          have HKV := Lib.hid hkk
          rw [hkk] at hkc2
          clear hkk
          go_wp2
          go_roundw
          case rel => exact ⟨k + 1, cur, by omega, by go_num, by rw [laid_succ hlt, if_neg (by rw [HKV.out]; simp)]; exact HOR.out, HBR.out, HFR.out⟩
          case measure => simp [intOf]; omega
        | true =>
          have HKV := Lib.hid hkk
          rw [hkk] at hkc2
          clear hkk
          have hb0 := HV.out.v.rc k hlt
          obtain ⟨b, o, rfl, hrg0⟩ := hb0
          have hbw : b < w.heap.size := World.block_lt_of_cell? w _ (hrg0 0 _ (Wri.pos_at _))
          have hbg : b ≠ g := by have := HGE.out; omega
          have HRG := Lib.hid ((RdC.past HV.out.v.rc HOK.out.c HFR.out HV.out.blk (dval_no _ _ _ _ _)).at hlt)
          have HX := Lib.hid (HOK.out.c _ (List.getElem_mem hlt))
          obtain ⟨q, hq⟩ : ∃ q : Nat, CC[k].pos = (q : Int) := ⟨CC[k].pos.toNat, by have := HPOS.out k hlt; omega⟩
          have hqn : q < SS.length := by have := HPOS.out k hlt; omega
          have HQ := Lib.hid hq
          clear hrg0 hq
          go_wp2
          have hqo : q * 130 + 130 ≤ cur.size := by have h1 := HOR.out.size; have h2 := HOR.out.room; rw [laid_len] at h2; omega
          have hck : ((k : Int)).toNat = k := by omega
          have HST : Hid (Stand [(p, .cells (DC (.slice (some ⟨g, 0, none⟩) SS.length cap) (.slice (some ⟨b, o, none⟩) CC.length cc) ff dd) 39 (0, 0))] wr) := Lib.hid (Stand.cons HBR.out (Stand.nil _))
          have HBd : Hid (Bk wr.drew p (DC (.slice (some ⟨g, 0, none⟩) SS.length cap) (.slice (some ⟨b, o, none⟩) CC.length cc) ff dd) 39) := Lib.hid HBR.out
          have HGd : Hid (Bk wr.drew g cur 59) := Lib.hid HOR.out.blk
          have HFd : Hid (Fr (fun i => i = p) w wr.drew) := Lib.hid (Fr.drew HFR.out)
          have HX0 : Hid (∀ W : World, W.rangeAt b (o + k * 129) CC[k].cells → W.cell? ⟨b, o + k * 129, none⟩ = some (.int .i64 (q : Int))) := Lib.hid (fun W h => by rw [← HQ.out]; exact h 0 _ (Wri.pos_at _))
          have HXD : Hid (∀ W : World, W.rangeAt b (o + k * 129) CC[k].cells → W.rangeAt b (o + k * 129 + 1) (CC[k].data.map B)) := Lib.hid (fun W h j u hj => by
            have := h (j + 1) u (by rw [Wri.data_at]; exact hj)
            rw [Nat.add_assoc (o + k * 129) 1 j, Nat.add_comm 1 j]
            exact this)
          have HIB : Hid ((Tryd.prog.info? 27).map (·.size) = some (CC[k].data.map B).length) := Lib.hid (by rw [List.length_map, HX.out.len, info_b])
          have HIC : Hid ((Tryd.prog.info? 27).map (·.size) = some (CC[k].data.map B).toArray.size) := Lib.hid (by rw [List.size_toArray, List.length_map, HX.out.len, info_b])
          have HOB : Hid ((CC[k].data.map B).toArray.all (·.oneCell') = true) := Lib.hid (by simp [B, Value.oneCell'])
          have HTH : Hid (wr.drew.there g (q * 130) (CC[k].data.map B).toArray.size) := Lib.hid (there_bk HGd.out _ _ (by rw [List.size_toArray, List.length_map, HX.out.len]; omega))
          have HOO := Lib.hid HOR.out
          clear HBR HOR p1 g1
          refine wp_region_noPanic ?_
          refine wp_region_held_drew (S := (fun W => Stand [(p, .cells (DC (.slice (some ⟨g, 0, none⟩) SS.length cap) (.slice (some ⟨b, o, none⟩) CC.length cc) ff dd) 39 (0, 0))] W ∧ W.rangeAt b (o + k * 129) CC[k].cells)) (by kernel_rfl) (⟨Stand.drew HST.out, HRG.out⟩) (fun hHeld0 => ?_)
          generalize wr.drew = wd at *
          refine tk0 (i := 0) (v := .pointer (some ⟨p, 0, none⟩)) rfl hHeld0 ?_
          simp only [Act.put, zA, zB, zC, zD, zE, zF]
          refine tk0 (i := 1) (v := .pointer (some ⟨p, 0, none⟩)) rfl hHeld0 ?_
          simp only [Act.put, zA, zB, zC, zD, zE, zF]
          refine tk0 (i := 2) (v := .pointer (some ⟨p, 0, none⟩)) rfl hHeld0 ?_
          simp only [Act.put, zA, zB, zC, zD, zE, zF]
          refine tk (i := 3) (v := .slice (some ⟨g, 0, none⟩) SS.length cap) rfl (Or.inl ⟨by kernel_rfl, fun w hSw => by have hcl := (fun W h => Bk.cell (Stand.a0 h.1) 0) w hSw; go_simp⟩) hHeld0 ?_
          simp only [Act.put, zA, zB, zC, zD, zE, zF]
          refine tk0 (i := 4) (v := .pointer (some ⟨p, 0, none⟩)) rfl hHeld0 ?_
          simp only [Act.put, zA, zB, zC, zD, zE, zF]
          refine tk0 (i := 5) (v := .pointer (some ⟨p, 0, none⟩)) rfl hHeld0 ?_
          simp only [Act.put, zA, zB, zC, zD, zE, zF]
          refine tk0 (i := 6) (v := .pointer (some ⟨p, 1, none⟩)) rfl hHeld0 ?_
          simp only [Act.put, zA, zB, zC, zD, zE, zF]
          refine tk (i := 7) (v := .slice (some ⟨b, o, none⟩) CC.length cc) rfl (Or.inl ⟨by kernel_rfl, fun w hSw => by have hcl := (fun W h => Bk.cell (Stand.a0 h.1) 1) w hSw; go_simp⟩) hHeld0 ?_
          simp only [Act.put, zA, zB, zC, zD, zE, zF]
          refine tk0 (i := 8) (v := .int .i64 (k : Int)) rfl hHeld0 ?_
          simp only [Act.put, zA, zB, zC, zD, zE, zF]
          refine tk (i := 9) (v := .pointer (some ⟨b, o + k * 129, none⟩)) rfl (Or.inl ⟨by kernel_rfl, fun w hSw => by go_simp⟩) hHeld0 ?_
          simp only [Act.put, zA, zB, zC, zD, zE, zF]
          refine tk0 (i := 10) (v := .pointer (some ⟨b, o + k * 129, none⟩)) rfl hHeld0 ?_
          simp only [Act.put, zA, zB, zC, zD, zE, zF]
          refine tk (i := 11) (v := .int .i64 (q : Int)) rfl (Or.inl ⟨by kernel_rfl, fun w hSw => by have hcl := (fun W h => HX0.out _ h.2) w hSw; go_simp⟩) hHeld0 ?_
          simp only [Act.put, zA, zB, zC, zD, zE, zF]
          refine tk0 (i := 12) (v := .pointer (some ⟨p, 0, none⟩)) rfl hHeld0 ?_
          simp only [Act.put, zA, zB, zC, zD, zE, zF]
          refine tk0 (i := 13) (v := .pointer (some ⟨p, 0, none⟩)) rfl hHeld0 ?_
          simp only [Act.put, zA, zB, zC, zD, zE, zF]
          refine tk0 (i := 14) (v := .pointer (some ⟨p, 1, none⟩)) rfl hHeld0 ?_
          simp only [Act.put, zA, zB, zC, zD, zE, zF]
          refine tk (i := 15) (v := .slice (some ⟨b, o, none⟩) CC.length cc) rfl (Or.inl ⟨by kernel_rfl, fun w hSw => by have hcl := (fun W h => Bk.cell (Stand.a0 h.1) 1) w hSw; go_simp⟩) hHeld0 ?_
          simp only [Act.put, zA, zB, zC, zD, zE, zF]
          refine tk0 (i := 16) (v := .int .i64 (k : Int)) rfl hHeld0 ?_
          simp only [Act.put, zA, zB, zC, zD, zE, zF]
          refine tk (i := 17) (v := .pointer (some ⟨b, o + k * 129, none⟩)) rfl (Or.inl ⟨by kernel_rfl, fun w hSw => by go_simp⟩) hHeld0 ?_
          simp only [Act.put, zA, zB, zC, zD, zE, zF]
          refine tk0 (i := 18) (v := .pointer (some ⟨b, o + k * 129 + 1, none⟩)) rfl hHeld0 ?_
          simp only [Act.put, zA, zB, zC, zD, zE, zF]
          refine tk (i := 19) (v := .agg (CC[k].data.map B).toArray) rfl (yieldsIf_load_mid (by kernel_rfl) 27 _ rfl b (o + k * 129 + 1) rfl (CC[k].data.map B) _ (fun W h => HXD.out W h.2) Tryd.underlying27 rfl HIB.out) hHeld0 ?_
          simp only [Act.put, zA, zB, zC, zD, zE, zF]
          refine tk (i := 20) (v := .pointer (some ⟨g, q * 130, none⟩)) rfl (Or.inl ⟨by kernel_rfl, fun w hSw => by go_simp⟩) hHeld0 ?_
          simp only [Act.put, zA, zB, zC, zD, zE, zF]
          refine tk0 (i := 21) (v := .pointer (some ⟨g, q * 130, none⟩)) rfl hHeld0 ?_
          simp only [Act.put, zA, zB, zC, zD, zE, zF]
          change wpAnyH _ _ _ _ _ 1 #[true, true, true, true, true, true, true, true, true, true, true, true, true, true, true, true, true, true, true, true, true, true, false] _ _
          refine wpAnyH_ready (rs := [22]) (by kernel_rfl) (by simp) ?_
          refine AllReadyH.cons rfl (fun K hK => ?_) AllReadyH.nil
          simp only [zA, zB, zC]
          refine (if_pos (by kernel_rfl)).mpr ?_
          refine wp_store_mid 27 _ _ rfl g (q * 130) (CC[k].data.map B).toArray rfl rfl HTH.out HIC.out HOB.out ?_
          refine hK.out _ _ (⟨Stand.fr hHeld0.1 (Fr.sets1 _ _ _ _) (fun r hr => by simp only [List.mem_cons, List.not_mem_nil, or_false] at hr; subst hr; exact hgp.symm), rangeAt_fr hHeld0.2 (Fr.sets1 _ _ _ _) hbg⟩) (fun hHeld1 => ?_)
          clear hK K hHeld0
          have HG3 : Hid (Bk (wd.setCells g (q * 130) (CC[k].data.map B).toArray.toList) g (lyc cur (q * 130) (CC[k].data.map B)) 59) := Lib.hid (sets_bk _ _ _ _ HGd.out)
          have HB3 : Hid (Bk (wd.setCells g (q * 130) (CC[k].data.map B).toArray.toList) p (DC (.slice (some ⟨g, 0, none⟩) SS.length cap) (.slice (some ⟨b, o, none⟩) CC.length cc) ff dd) 39) := Lib.hid ((Fr.sets1 wd g (q * 130) _).keep HBd.out hgp.symm)
          have HF3 : Hid (Fr (fun i => i = p) w (wd.setCells g (q * 130) (CC[k].data.map B).toArray.toList)) := Lib.hid (Fr.newG HFd.out (Fr.sets1 wd g (q * 130) _) HGE.out)
          generalize (wd.setCells g (q * 130) (CC[k].data.map B).toArray.toList) = w3 at *
          change wpAnyH _ _ _ _ _ 0 #[true, true, true, true, true, true, true, true, true, true, true, true, true, true, true, true, true, true, true, true, true, true, true] _ _
          refine wpAnyH_done (by kernel_rfl) ?_ _
          refine NoPanic.normal ?_
          have HEND := Lib.hid hHeld1
          clear hHeld1
          have hs3 : (lyc cur (q * 130) (CC[k].data.map B)).size = cur.size := lay_size _ _ _
          go_wp2_with fail
          clear HST
          have HST := Lib.hid HEND.out
          have HBe : Hid (Bk w3.drew p (DC (.slice (some ⟨g, 0, none⟩) SS.length cap) (.slice (some ⟨b, o, none⟩) CC.length cc) ff dd) 39) := Lib.hid HB3.out
          have HGe : Hid (Bk w3.drew g (lyc cur (q * 130) (CC[k].data.map B)) 59) := Lib.hid HG3.out
          have HFe : Hid (Fr (fun i => i = p) w w3.drew) := Lib.hid (Fr.drew HF3.out)
          clear HEND HB3 HG3 HF3
          refine wp_region_noPanic ?_
          refine wp_region_held_drew (S := (fun W => Stand [(p, .cells (DC (.slice (some ⟨g, 0, none⟩) SS.length cap) (.slice (some ⟨b, o, none⟩) CC.length cc) ff dd) 39 (0, 0))] W ∧ W.rangeAt b (o + k * 129) CC[k].cells)) (by kernel_rfl) (⟨Stand.drew HST.out.1, HST.out.2⟩) (fun hHeld0 => ?_)
          generalize w3.drew = we at *
          refine tk0 (i := 0) (v := .pointer (some ⟨p, 0, none⟩)) rfl hHeld0 ?_
          simp only [Act.put, zA, zB, zC, zD, zE, zF]
          refine tk0 (i := 1) (v := .pointer (some ⟨p, 0, none⟩)) rfl hHeld0 ?_
          simp only [Act.put, zA, zB, zC, zD, zE, zF]
          refine tk0 (i := 2) (v := .pointer (some ⟨p, 0, none⟩)) rfl hHeld0 ?_
          simp only [Act.put, zA, zB, zC, zD, zE, zF]
          refine tk (i := 3) (v := .slice (some ⟨g, 0, none⟩) SS.length cap) rfl (Or.inl ⟨by kernel_rfl, fun w hSw => by have hcl := (fun W h => Bk.cell (Stand.a0 h.1) 0) w hSw; go_simp⟩) hHeld0 ?_
          simp only [Act.put, zA, zB, zC, zD, zE, zF]
          refine tk0 (i := 4) (v := .pointer (some ⟨p, 0, none⟩)) rfl hHeld0 ?_
          simp only [Act.put, zA, zB, zC, zD, zE, zF]
          refine tk0 (i := 5) (v := .pointer (some ⟨p, 0, none⟩)) rfl hHeld0 ?_
          simp only [Act.put, zA, zB, zC, zD, zE, zF]
          refine tk0 (i := 6) (v := .pointer (some ⟨p, 1, none⟩)) rfl hHeld0 ?_
          simp only [Act.put, zA, zB, zC, zD, zE, zF]
          refine tk (i := 7) (v := .slice (some ⟨b, o, none⟩) CC.length cc) rfl (Or.inl ⟨by kernel_rfl, fun w hSw => by have hcl := (fun W h => Bk.cell (Stand.a0 h.1) 1) w hSw; go_simp⟩) hHeld0 ?_
          simp only [Act.put, zA, zB, zC, zD, zE, zF]
          refine tk0 (i := 8) (v := .int .i64 (k : Int)) rfl hHeld0 ?_
          simp only [Act.put, zA, zB, zC, zD, zE, zF]
          refine tk (i := 9) (v := .pointer (some ⟨b, o + k * 129, none⟩)) rfl (Or.inl ⟨by kernel_rfl, fun w hSw => by go_simp⟩) hHeld0 ?_
          simp only [Act.put, zA, zB, zC, zD, zE, zF]
          refine tk0 (i := 10) (v := .pointer (some ⟨b, o + k * 129, none⟩)) rfl hHeld0 ?_
          simp only [Act.put, zA, zB, zC, zD, zE, zF]
          refine tk (i := 11) (v := .int .i64 (q : Int)) rfl (Or.inl ⟨by kernel_rfl, fun w hSw => by have hcl := (fun W h => HX0.out _ h.2) w hSw; go_simp⟩) hHeld0 ?_
          simp only [Act.put, zA, zB, zC, zD, zE, zF]
          refine tk (i := 12) (v := .pointer (some ⟨g, q * 130, none⟩)) rfl (Or.inl ⟨by kernel_rfl, fun w hSw => by go_simp⟩) hHeld0 ?_
          simp only [Act.put, zA, zB, zC, zD, zE, zF]
          refine tk0 (i := 13) (v := .pointer (some ⟨g, q * 130 + 128, none⟩)) rfl hHeld0 ?_
          simp only [Act.put, zA, zB, zC, zD, zE, zF]
          change wpAnyH _ _ _ _ _ 1 #[true, true, true, true, true, true, true, true, true, true, true, true, true, true, false] _ _
          refine wpAnyH_ready (rs := [14]) (by kernel_rfl) (by simp) ?_
          refine AllReadyH.cons rfl (fun K hK => ?_) AllReadyH.nil
          simp only [zA, zB, zC]
          refine (if_pos (by kernel_rfl)).mpr ?_
          obtain ⟨u9, hu9⟩ : ∃ u, we.cell? ⟨g, q * 130 + 128, none⟩ = some u := ⟨_, (Bk.cell HGe.out _).trans (Array.getElem?_eq_getElem (by omega))⟩
          have hf9 := Bk.free HGe.out (q * 130 + 128)
          go_wp2_with fail
          clear hu9 hf9
          have HG4 : Hid (Bk (we.setCell ⟨g, q * 130 + 128, none⟩ (.bool false)) g ((lyc cur (q * 130) (CC[k].data.map B)).setIfInBounds (q * 130 + 128) (.bool false)) 59) := Lib.hid (Bk.set HGe.out _ _)
          have HB4 : Hid (Bk (we.setCell ⟨g, q * 130 + 128, none⟩ (.bool false)) p (DC (.slice (some ⟨g, 0, none⟩) SS.length cap) (.slice (some ⟨b, o, none⟩) CC.length cc) ff dd) 39) := Lib.hid ((Fr.set1 we g (q * 130 + 128) _).keep HBe.out hgp.symm)
          have HF4 : Hid (Fr (fun i => i = p) w (we.setCell ⟨g, q * 130 + 128, none⟩ (.bool false))) := Lib.hid (Fr.newG HFe.out (Fr.set1 we g (q * 130 + 128) _) HGE.out)
          refine hK.out _ _ (⟨Stand.fr hHeld0.1 (Fr.set1 _ _ _ _) (fun r hr => by simp only [List.mem_cons, List.not_mem_nil, or_false] at hr; subst hr; exact hgp.symm), rangeAt_fr hHeld0.2 (Fr.set1 _ _ _ _) hbg⟩) (fun hHeld1 => ?_)
          clear hK K hHeld0
          generalize (we.setCell ⟨g, q * 130 + 128, none⟩ (.bool false)) = wy0 at *
          change wpAnyH _ _ _ _ _ 0 #[true, true, true, true, true, true, true, true, true, true, true, true, true, true, true] _ _
          refine wpAnyH_done (by kernel_rfl) ?_ _
          refine NoPanic.normal ?_
          have HEND := Lib.hid hHeld1
          clear hHeld1
          go_wp2_with fail
          go_roundw
          case rel => exact ⟨k + 1, _, by omega, by go_num, by
            rw [laid_succ hlt, if_pos HKV.out, HQ.out, Int.toNat_natCast]
            exact OwnS.lay1 HOO.out (laid_ok HOK.out.s HOK.out.c k) (by rw [laid_len]; exact hqn) CC[k] HX.out HG4.out, HB4.out, HF4.out⟩
          case measure => simp [intOf]; omega
      · have HKV : Hid (keep.getD k false = false) := Lib.hid (by rw [List.getD_eq_getElem?_getD, List.getElem?_eq_none (by omega)]; rfl)
        go_wp2
        go_roundw
        case rel => exact ⟨k + 1, cur, by omega, by go_num, by rw [laid_succ hlt, if_neg (by rw [HKV.out]; simp)]; exact HOR.out, HBR.out, HFR.out⟩
        case measure => simp [intOf]; omega
    · obtain rfl : k = CC.length := by omega
      clear hlt
      go_wp2
      go_end0
      refine ⟨⟨_, rfl⟩, ⟨some ⟨g, 0, none⟩, cap, ?_, ?_⟩, Fr.set HFR.out _ _ (.inr rfl)⟩
      · have := Bk.set HBR.out 1 (.slice none 0 0)
        simp only [layD, dval, laid_len]
        exact this
      · have hgp : g ≠ p := by have := HGE.out; omega
        have := OwnG.keep HOR.out (Fr.set1 wr p 1 (.slice none 0 0)) hgp
        exact ⟨this.rd, RdG.nil _ _, this.room, this.max, Nat.le_refl _, by omega⟩

end Go.Proofs.YtlleandelcjhjaaDoor.DiskRLay
