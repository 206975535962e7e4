/- Are two disks the same: the walk of Same of the reference at disks that are. -/
import Derived.Test.YtlleandelcjhjaaDoorDiskSame
set_option maxRecDepth 100000
set_option linter.unusedVariables false
set_option linter.unusedSimpArgs false
namespace Go.Proofs.YtlleandelcjhjaaDoor.DiskSameB
open Go Go.RowKit Go.Proofs.YtlleandelcjhjaaDoor.K Go.Proofs.YtlleandelcjhjaaDoor.EqKit Go.Proofs.YtlleandelcjhjaaDoor.ArrKit Go.Proofs.YtlleandelcjhjaaDoor.HeldKit Go.Proofs.YtlleandelcjhjaaDoor.GKit Go.Proofs.YtlleandelcjhjaaDoor.GRow Go.Proofs.YtlleandelcjhjaaDoor.DiskKit Go.Proofs.YtlleandelcjhjaaDoor.DiskAsk Go.Proofs.YtlleandelcjhjaaDoor.DiskForm Go.Proofs.YtlleandelcjhjaaDoor.DiskAct Go.Proofs.YtlleandelcjhjaaDoor.DiskNew Go.Proofs.YtlleandelcjhjaaDoor.DiskSame

set_option maxHeartbeats 2000000 in
set_option maxRecDepth 100000 in
theorem same_calls (d : Dk) (sa : Option Addr) (sc : Nat) (ca : Option Addr) (cc : Nat) (sb : Option Addr) (sd : Nat) (cb : Option Addr) (cd : Nat) (w : World) (hok : d.ok) (hv : DV w d sa sc ca cc) (hv' : DV w d sb sd cb cd) : Calls Tryd.prog 24 #[.agg (dval d sa sc ca cc), .agg (dval d sb sd cb cd)] w fun e w' => e = .returned (.bool true) ∧ Fr0 w w' := by
  have hm := hv.sm
  have hsn := hv.sn
  have hcm := hv.cm
  have hcn := hv.cn
  have hsn' := hv'.sn
  have hsm' := hv'.sm
  have hcn' := hv'.cn
  have hcm' := hv'.cm
  have hs1 : (w.alloc (.cells (dval d sa sc ca cc) 39)).heap.size = w.heap.size + 1 := by simp
  have HA : Hid (Bk ((w.alloc (.cells (dval d sa sc ca cc) 39)).alloc (.cells (dval d sb sd cb cd) 39)) w.heap.size (dval d sa sc ca cc) 39) := Lib.hid (Bk.alloc (Bk.new w _) _)
  have HB : Hid (Bk ((w.alloc (.cells (dval d sa sc ca cc) 39)).alloc (.cells (dval d sb sd cb cd) 39)) (w.heap.size + 1) (dval d sb sd cb cd) 39) := Lib.hid (by have := Bk.new (w.alloc (.cells (dval d sa sc ca cc) 39)) (.cells (dval d sb sd cb cd) 39); rwa [hs1] at this)
  have HF : Hid (Fr0 w ((w.alloc (.cells (dval d sa sc ca cc) 39)).alloc (.cells (dval d sb sd cb cd) 39))) := Lib.hid (Fr.alloc (Fr.alloc (Fr.refl _ _) _) _)
  have HRS := Lib.hid hv.rs
  have HRC := Lib.hid hv.rc
  have HRS' := Lib.hid hv'.rs
  have HRC' := Lib.hid hv'.rc
  have HOS := Lib.hid hok.s
  have HOC := Lib.hid hok.c
  have hff : (d.fuse == d.fuse) = true := by simp
  have hdd : (d.down == d.down) = true := by simp
  clear hv hok hs1 hv'
  obtain ⟨SS, CC, ff, dd⟩ := d
  dsimp only [dval] at *
  go_enter Tryd.func24, Tryd.ntmps24
  go_wp2
  generalize hw0 : World.alloc _ _ = w0 at *
  clear hw0
  go_loopw [5] (fun i wr => ∃ k : Nat, k ≤ SS.length ∧ i = .int .i64 k ∧ Held w [(w.heap.size, .cells (DC (.slice sa SS.length sc) (.slice ca CC.length cc) ff dd) 39 (0, 0)), (w.heap.size + 1, .cells (DC (.slice sb SS.length sd) (.slice cb CC.length cd) ff dd) 39 (0, 0))] wr) (fun i _ => SS.length - (intOf i).toNat)
  case atStart => exact ⟨0, Nat.zero_le _, rfl, Held.cons HA.out (Held.cons HB.out (Held.nil HF.out))⟩
  case round =>
    obtain ⟨k, hk, rfl, hH⟩ := hrel
    have HH := Lib.hid hH
    have q0 : wr.cell? ⟨w.heap.size, 0, none⟩ = some (.slice sa SS.length sc) := Bk.cell (Held.a0 HH.out) 0
    have q1 : wr.cell? ⟨w.heap.size, 1, none⟩ = some (.slice ca CC.length cc) := Bk.cell (Held.a0 HH.out) 1
    clear hH
    by_cases hlt : k < SS.length
    · obtain ⟨b, o, rfl, hrg⟩ := HRS.out k hlt
      obtain ⟨b', o', rfl, hrg'⟩ := HRS'.out k hlt
      have HX := Lib.hid (HOS.out _ (List.getElem_mem hlt))
      have HIX : Hid ((Tryd.prog.info? 59).map (·.size) = some SS[k].cells.length) := Lib.hid (by rw [Sec.len HX.out, info_s])
      have HG : Hid (∀ W, Fr0 w W → W.rangeAt b (o + k * 130) SS[k].cells) := Lib.hid (fun W h => (RdG.keep HRS.out h).at hlt)
      have HG' : Hid (∀ W, Fr0 w W → W.rangeAt b' (o' + k * 130) SS[k].cells) := Lib.hid (fun W h => (RdG.keep HRS'.out h).at hlt)
      have HEQ : Hid (∀ W, (Op.equalIn 10000 59 (.agg SS[k].cells.toArray) (.agg SS[k].cells.toArray)).run Tryd.prog W = .ok true W) := Lib.hid (eq_sec HX.out)
      clear hrg hrg'
      go_wp2
      refine wp_region_noPanic ?_
      refine wp_region_held_drew (S := (Held w [(w.heap.size, .cells (DC (.slice (some ⟨b, o, none⟩) SS.length sc) (.slice ca CC.length cc) ff dd) 39 (0, 0)), (w.heap.size + 1, .cells (DC (.slice (some ⟨b', o', none⟩) SS.length sd) (.slice cb CC.length cd) ff dd) 39 (0, 0))])) (by kernel_rfl) (Held.drew HH.out) (fun hHeld0 => ?_)
      refine tk0 (i := 0) (v := .pointer (some ⟨w.heap.size, 0, none⟩)) rfl hHeld0 ?_
      simp only [Act.put, zA, zB, zC, zD, zE, zF]
      refine tk (i := 1) (v := .slice (some ⟨b, o, none⟩) SS.length sc) rfl (Or.inl ⟨by kernel_rfl, fun w hSw => by have hcl := (fun W h => Bk.cell (Held.a0 h) 0) w hSw; go_simp⟩) hHeld0 ?_
      simp only [Act.put, zA, zB, zC, zD, zE, zF]
      refine tk0 (i := 2) (v := .int .i64 (k : Int)) rfl hHeld0 ?_
      simp only [Act.put, zA, zB, zC, zD, zE, zF]
      refine tk (i := 3) (v := .pointer (some ⟨b, o + k * 130, none⟩)) rfl (Or.inl ⟨by kernel_rfl, fun w hSw => by go_simp⟩) hHeld0 ?_
      simp only [Act.put, zA, zB, zC, zD, zE, zF]
      refine tk (i := 4) (v := .agg SS[k].cells.toArray) rfl (yieldsIf_load_mid (by kernel_rfl) 59 _ rfl b (o + k * 130) rfl SS[k].cells _ (fun W h => HG.out W h.2) Tryd.underlying59 rfl HIX.out) hHeld0 ?_
      simp only [Act.put, zA, zB, zC, zD, zE, zF]
      refine tk0 (i := 5) (v := .pointer (some ⟨w.heap.size + 1, 0, none⟩)) rfl hHeld0 ?_
      simp only [Act.put, zA, zB, zC, zD, zE, zF]
      refine tk (i := 6) (v := .slice (some ⟨b', o', none⟩) SS.length sd) rfl (Or.inl ⟨by kernel_rfl, fun w hSw => by have hcl := (fun W h => Bk.cell (Held.a0 (Held.tl h)) 0) w hSw; go_simp⟩) hHeld0 ?_
      simp only [Act.put, zA, zB, zC, zD, zE, zF]
      refine tk0 (i := 7) (v := .int .i64 (k : Int)) rfl hHeld0 ?_
      simp only [Act.put, zA, zB, zC, zD, zE, zF]
      refine tk (i := 8) (v := .pointer (some ⟨b', o' + k * 130, none⟩)) rfl (Or.inl ⟨by kernel_rfl, fun w hSw => by go_simp⟩) hHeld0 ?_
      simp only [Act.put, zA, zB, zC, zD, zE, zF]
      refine tk (i := 9) (v := .agg SS[k].cells.toArray) rfl (yieldsIf_load_mid (by kernel_rfl) 59 _ rfl b' (o' + k * 130) rfl SS[k].cells _ (fun W h => HG'.out W h.2) Tryd.underlying59 rfl HIX.out) hHeld0 ?_
      simp only [Act.put, zA, zB, zC, zD, zE, zF]
      refine tk (i := 10) (v := .bool false) rfl (Or.inl ⟨by kernel_rfl, fun w hSw => run_neq_op rfl rfl rfl guard_s HEQ.out w⟩) hHeld0 ?_
      simp only [Act.put, zA, zB, zC, zD, zE, zF]
      change wpAnyH _ _ _ _ _ 0 #[true, true, true, true, true, true, true, true, true, true, true] _ _
      refine wpAnyH_done (by kernel_rfl) ?_ _
      refine NoPanic.normal ?_
      have HFIN := Lib.hid (Held.f hHeld0)
      have HEND := Lib.hid hHeld0
      clear hHeld0
      go_wp2
      go_roundw
      case rel => exact ⟨k + 1, by omega, by go_num, HEND.out⟩
      case measure => simp [intOf]; omega
    · obtain rfl : k = SS.length := by omega
      clear hlt
      go_wp2
      clear q0 q1
      obtain ⟨wz, rfl⟩ : ∃ wz : World, wz = wr := ⟨_, rfl⟩
      go_loopw [6] (fun i wr => ∃ k : Nat, k ≤ CC.length ∧ i = .int .i64 k ∧ Held w [(w.heap.size, .cells (DC (.slice sa SS.length sc) (.slice ca CC.length cc) ff dd) 39 (0, 0)), (w.heap.size + 1, .cells (DC (.slice sb SS.length sd) (.slice cb CC.length cd) ff dd) 39 (0, 0))] wr) (fun i _ => CC.length - (intOf i).toNat)
      case atStart => exact ⟨0, Nat.zero_le _, rfl, HH.out⟩
      case round =>
        clear HH
        obtain ⟨k, hk, rfl, hH⟩ := hrel
        have HH := Lib.hid hH
        have q1 : wr.cell? ⟨w.heap.size, 1, none⟩ = some (.slice ca CC.length cc) := Bk.cell (Held.a0 HH.out) 1
        clear hH
        by_cases hlt : k < CC.length
        · obtain ⟨b, o, rfl, hrg⟩ := HRC.out k hlt
          obtain ⟨b', o', rfl, hrg'⟩ := HRC'.out k hlt
          have HX := Lib.hid (HOC.out _ (List.getElem_mem hlt))
          have HIX : Hid ((Tryd.prog.info? 79).map (·.size) = some CC[k].cells.length) := Lib.hid (by rw [Wri.leng HX.out, info_w])
          have HG : Hid (∀ W, Fr0 w W → W.rangeAt b (o + k * 129) CC[k].cells) := Lib.hid (fun W h => (RdG.keep HRC.out h).at hlt)
          have HG' : Hid (∀ W, Fr0 w W → W.rangeAt b' (o' + k * 129) CC[k].cells) := Lib.hid (fun W h => (RdG.keep HRC'.out h).at hlt)
          have HEQ : Hid (∀ W, (Op.equalIn 10000 79 (.agg CC[k].cells.toArray) (.agg CC[k].cells.toArray)).run Tryd.prog W = .ok true W) := Lib.hid (eq_wri HX.out)
          clear hrg hrg'
          go_wp2
          refine wp_region_noPanic ?_
          refine wp_region_held_drew (S := (Held w [(w.heap.size, .cells (DC (.slice sa SS.length sc) (.slice (some ⟨b, o, none⟩) CC.length cc) ff dd) 39 (0, 0)), (w.heap.size + 1, .cells (DC (.slice sb SS.length sd) (.slice (some ⟨b', o', none⟩) CC.length cd) ff dd) 39 (0, 0))])) (by kernel_rfl) (Held.drew HH.out) (fun hHeld0 => ?_)
          refine tk0 (i := 0) (v := .pointer (some ⟨w.heap.size, 1, none⟩)) rfl hHeld0 ?_
          simp only [Act.put, zA, zB, zC, zD, zE, zF]
          refine tk (i := 1) (v := .slice (some ⟨b, o, none⟩) CC.length cc) rfl (Or.inl ⟨by kernel_rfl, fun w hSw => by have hcl := (fun W h => Bk.cell (Held.a0 h) 1) w hSw; go_simp⟩) hHeld0 ?_
          simp only [Act.put, zA, zB, zC, zD, zE, zF]
          refine tk0 (i := 2) (v := .int .i64 (k : Int)) rfl hHeld0 ?_
          simp only [Act.put, zA, zB, zC, zD, zE, zF]
          refine tk (i := 3) (v := .pointer (some ⟨b, o + k * 129, none⟩)) rfl (Or.inl ⟨by kernel_rfl, fun w hSw => by go_simp⟩) hHeld0 ?_
          simp only [Act.put, zA, zB, zC, zD, zE, zF]
          refine tk (i := 4) (v := .agg CC[k].cells.toArray) rfl (yieldsIf_load_mid (by kernel_rfl) 79 _ rfl b (o + k * 129) rfl CC[k].cells _ (fun W h => HG.out W h.2) Tryd.underlying79 rfl HIX.out) hHeld0 ?_
          simp only [Act.put, zA, zB, zC, zD, zE, zF]
          refine tk0 (i := 5) (v := .pointer (some ⟨w.heap.size + 1, 1, none⟩)) rfl hHeld0 ?_
          simp only [Act.put, zA, zB, zC, zD, zE, zF]
          refine tk (i := 6) (v := .slice (some ⟨b', o', none⟩) CC.length cd) rfl (Or.inl ⟨by kernel_rfl, fun w hSw => by have hcl := (fun W h => Bk.cell (Held.a0 (Held.tl h)) 1) w hSw; go_simp⟩) hHeld0 ?_
          simp only [Act.put, zA, zB, zC, zD, zE, zF]
          refine tk0 (i := 7) (v := .int .i64 (k : Int)) rfl hHeld0 ?_
          simp only [Act.put, zA, zB, zC, zD, zE, zF]
          refine tk (i := 8) (v := .pointer (some ⟨b', o' + k * 129, none⟩)) rfl (Or.inl ⟨by kernel_rfl, fun w hSw => by go_simp⟩) hHeld0 ?_
          simp only [Act.put, zA, zB, zC, zD, zE, zF]
          refine tk (i := 9) (v := .agg CC[k].cells.toArray) rfl (yieldsIf_load_mid (by kernel_rfl) 79 _ rfl b' (o' + k * 129) rfl CC[k].cells _ (fun W h => HG'.out W h.2) Tryd.underlying79 rfl HIX.out) hHeld0 ?_
          simp only [Act.put, zA, zB, zC, zD, zE, zF]
          refine tk (i := 10) (v := .bool false) rfl (Or.inl ⟨by kernel_rfl, fun w hSw => run_neq_op rfl rfl rfl guard_w HEQ.out w⟩) hHeld0 ?_
          simp only [Act.put, zA, zB, zC, zD, zE, zF]
          change wpAnyH _ _ _ _ _ 0 #[true, true, true, true, true, true, true, true, true, true, true] _ _
          refine wpAnyH_done (by kernel_rfl) ?_ _
          refine NoPanic.normal ?_
          have HFIN := Lib.hid (Held.f hHeld0)
          have HEND := Lib.hid hHeld0
          clear hHeld0
          go_wp2
          go_roundw
          case rel => exact ⟨k + 1, by omega, by go_num, HEND.out⟩
          case measure => simp [intOf]; omega
        · obtain rfl : k = CC.length := by omega
          clear hlt
          go_wp2
          go_ret
          exact ⟨rfl, HH.out.2⟩

end Go.Proofs.YtlleandelcjhjaaDoor.DiskSameB
