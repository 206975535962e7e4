/- What is asked of a disk: the walks of there and of Formed of the reference. -/
import Derived.Test.YtboakipfhidkmaaDiskKit
set_option linter.unusedVariables false
set_option linter.unusedSimpArgs false
namespace Go.Proofs.Ytboakipfhidkmaa.DiskAsk
open Go Go.RowKit Go.Proofs.Ytboakipfhidkmaa.K Go.Proofs.Ytboakipfhidkmaa.EqKit Go.Proofs.Ytboakipfhidkmaa.ArrKit Go.Proofs.Ytboakipfhidkmaa.HeldKit Go.Proofs.Ytboakipfhidkmaa.GKit Go.Proofs.Ytboakipfhidkmaa.GRow Go.Proofs.Ytboakipfhidkmaa.DiskKit

set_option maxHeartbeats 2000000 in
set_option maxRecDepth 100000 in
theorem there_calls (n sc : Nat) (sa : Option Addr) (cv : Value) (f : Int) (dn : Bool) (a : Int) (w : World) : Calls Try.prog 31 #[.agg (DC (.slice sa n sc) cv f dn), .int .i64 a] w fun e w' => e = .returned (.bool (thereB n a)) ∧ Fr0 w w' := by
  by_cases h0 : 0 ≤ a
  · by_cases h1 : a < n
    · rw [thereB_true.2 ⟨h0, h1⟩]
      go_enter Try.func31, Try.ntmps31
      go_wp2
      go_ret
      exact ⟨rfl, Fr.alloc (Fr.refl _ _) _⟩
    · rw [thereB_false.2 (by omega)]
      have h2 : (n : Int) ≤ a := by omega
      clear h1
      have c0 : decide (a < (n : Int)) = false := decide_eq_false (by omega)
      go_enter Try.func31, Try.ntmps31
      go_wp2
      go_ret
      exact ⟨rfl, Fr.alloc (Fr.refl _ _) _⟩
  · rw [thereB_false.2 (by omega)]
    have h2 : a < 0 := by omega
    clear h0
    have c0 : decide (0 ≤ a) = false := decide_eq_false (by omega)
    go_enter Try.func31, Try.ntmps31
    go_wp2
    go_ret
    exact ⟨rfl, Fr.alloc (Fr.refl _ _) _⟩
theorem all_take {n : Nat} {l : List Wri} {k : Nat} (h : k < l.length) : allThere n (l.take (k + 1)) = (allThere n (l.take k) && thereB n l[k].pos) := by
  rw [List.take_succ_eq_append_getElem h, allThere, List.all_append]; simp [allThere]
theorem all_false {n : Nat} {l : List Wri} {k : Nat} (h : k < l.length) (h2 : thereB n l[k].pos = false) : allThere n l = false := by
  rw [allThere, List.all_eq_false]
  exact ⟨l[k], List.getElem_mem h, by simp [h2]⟩
theorem formed_yes {d : Dk} (ha : allThere d.S.length d.C = true) (h1 : 1 ≤ d.S.length) (h2 : d.S.length ≤ 4096) : formedB d = true := by
  rw [formedB, ha, Bool.true_and]; exact decide_eq_true ⟨h1, h2⟩
theorem formed_no {d : Dk} (h : ¬ (1 ≤ d.S.length ∧ d.S.length ≤ 4096)) : formedB d = false := by
  rw [formedB, decide_eq_false h, Bool.and_false]
theorem formed_un {d : Dk} (ha : allThere d.S.length d.C = false) : formedB d = false := by
  rw [formedB, ha, Bool.false_and]
set_option maxHeartbeats 2000000 in
set_option maxRecDepth 100000 in
theorem rformed_calls (d : Dk) (sa : Option Addr) (sc : Nat) (ca : Option Addr) (cc : Nat) (w : World) (hv : DV w d sa sc ca cc) : Calls Try.prog 17 #[.agg (dval d sa sc ca cc)] w fun e w' => e = .returned (.bool (formedB d)) ∧ Fr0 w w' := by
  have hm := hv.sm
  have hsn := hv.sn
  have hcm := hv.cm
  have hcn := hv.cn
  have HB : Hid (Bk (w.alloc (.cells (dval d sa sc ca cc) 25)) w.heap.size (dval d sa sc ca cc) 25) := Lib.hid (Bk.new w _)
  have HF : Hid (Fr0 w (w.alloc (.cells (dval d sa sc ca cc) 25))) := Lib.hid (Fr.alloc (Fr.refl _ _) _)
  have HRC := Lib.hid hv.rc
  obtain ⟨RV, hRV⟩ : ∃ RV : Value, RV = .bool (formedB d) := ⟨_, rfl⟩
  rw [← hRV]
  have HRV := Lib.hid hRV
  clear hv hRV
  obtain ⟨SS, CC, ff, dd⟩ := d
  dsimp only [dval] at *
  go_enter Try.func17, Try.ntmps17
  go_wp2
  generalize hw0 : w.alloc _ = w0 at *
  have h0 : w0.cell? ⟨w.heap.size, 0, none⟩ = some (.slice sa SS.length sc) := Bk.cell HB.out 0
  have h1 : w0.cell? ⟨w.heap.size, 1, none⟩ = some (.slice ca CC.length cc) := Bk.cell HB.out 1
  clear hw0
  go_loopw [3] (fun i wr => ∃ k : Nat, k ≤ CC.length ∧ i = .int .i64 k ∧ allThere SS.length (CC.take k) = true ∧ Bk wr w.heap.size (DC (.slice sa SS.length sc) (.slice ca CC.length cc) ff dd) 25 ∧ Fr0 w wr) (fun i _ => CC.length - (intOf i).toNat)
  case atStart => exact ⟨0, Nat.zero_le _, rfl, by simp [allThere], HB.out, HF.out⟩
  case round =>
    obtain ⟨k, hk, rfl, hall, hB, hF⟩ := hrel
    have HALL := Lib.hid hall
    have HBR := Lib.hid hB
    have HFR := Lib.hid hF
    clear hall h0 h1
    have q0 := Bk.cell HBR.out 0
    have q1 := Bk.cell HBR.out 1
    simp only [List.getElem?_toArray, List.getElem?_cons_zero, List.getElem?_cons_succ] at q0 q1
    clear hB hF
    by_cases hlt : k < CC.length
    · obtain ⟨b, o, rfl, hrg⟩ := (HRC.out.keep HFR.out) k hlt
      have hpos : wr.cell? ⟨b, o + k * 129, none⟩ = some (.int .i64 CC[k].pos) := hrg 0 _ (Wri.pos_at _)
      have HTH := Lib.hid (fun W => there_calls SS.length sc sa (.slice (some ⟨b, o, none⟩) CC.length cc) ff dd CC[k].pos W)
      have hbl := World.block_lt_of_cell? wr _ hpos
      have hix : ((k : Int)).toNat = k := by omega
      have H0 : Hid (Held wr [(w.heap.size, .cells (DC (.slice sa SS.length sc) (.slice (some ⟨b, o, none⟩) CC.length cc) ff dd) 25 (0, 0))] wr) := Lib.hid (Held.cons HBR.out (Held.nil (Fr.refl _ _)))
      cases ht : thereB SS.length CC[k].pos with
      | true =>
        have HT := Lib.hid ht
        rw [ht] at HTH
        clear ht hrg
        go_wp2
        refine wp_region_noPanic ?_
        refine wp_region_held_drew (S := (Held wr [(w.heap.size, .cells (DC (.slice sa SS.length sc) (.slice (some ⟨b, o, none⟩) CC.length cc) ff dd) 25 (0, 0))])) (by kernel_rfl) (Held.drew H0.out) (fun hHeld0 => ?_)
        change wpAnyH _ _ _ _ _ 9 #[false, false, false, false, false, false, false, false, false] _ _
        refine wpAnyH_take (i := 0) (v := .agg (DC (.slice sa SS.length sc) (.slice (some ⟨b, o, none⟩) CC.length cc) ff dd)) rfl (by kernel_rfl) (by kernel_rfl) (by kernel_rfl) (fun _ _ _ h => h) (yields_row (by kernel_rfl) 25 _ rfl (w.heap.size) rfl 25 (DC (.slice sa SS.length sc) (.slice (some ⟨b, o, none⟩) CC.length cc) ff dd) (0, 0) _ (fun W h => Held.a0 h) Try.underlying25 rfl info_d) hHeld0 ?_
        simp only [Act.put, List.getElem_toArray, List.getElem_cons_succ, List.getElem_cons_zero, List.setIfInBounds_toArray, List.set_cons_zero, List.set_cons_succ]
        change wpAnyH _ _ _ _ _ 8 #[true, false, false, false, false, false, false, false, false] _ _
        refine wpAnyH_take (i := 1) (v := .pointer (some ⟨w.heap.size, 1, none⟩)) rfl (by kernel_rfl) (by kernel_rfl) (by kernel_rfl) (fun _ _ _ h => h) (Or.inl ⟨by kernel_rfl, fun w hSw => by first | kernel_rfl | (go_simp; done)⟩) hHeld0 ?_
        simp only [Act.put, List.getElem_toArray, List.getElem_cons_succ, List.getElem_cons_zero, List.setIfInBounds_toArray, List.set_cons_zero, List.set_cons_succ]
        change wpAnyH _ _ _ _ _ 7 #[true, true, false, false, false, false, false, false, false] _ _
        refine wpAnyH_take (i := 2) (v := .slice (some ⟨b, o, none⟩) CC.length cc) rfl (by kernel_rfl) (by kernel_rfl) (by kernel_rfl) (fun _ _ _ h => h) (Or.inl ⟨by kernel_rfl, fun w hSw => by have hcl := (fun W h => Bk.cell (Held.a0 h) 1) w hSw; go_simp⟩) hHeld0 ?_
        simp only [Act.put, List.getElem_toArray, List.getElem_cons_succ, List.getElem_cons_zero, List.setIfInBounds_toArray, List.set_cons_zero, List.set_cons_succ]
        change wpAnyH _ _ _ _ _ 6 #[true, true, true, false, false, false, false, false, false] _ _
        refine wpAnyH_take (i := 3) (v := .int .i64 (k : Int)) rfl (by kernel_rfl) (by kernel_rfl) (by kernel_rfl) (fun _ _ _ h => h) (Or.inl ⟨by kernel_rfl, fun w hSw => by first | kernel_rfl | (go_simp; done)⟩) hHeld0 ?_
        simp only [Act.put, List.getElem_toArray, List.getElem_cons_succ, List.getElem_cons_zero, List.setIfInBounds_toArray, List.set_cons_zero, List.set_cons_succ]
        change wpAnyH _ _ _ _ _ 5 #[true, true, true, true, false, false, false, false, false] _ _
        refine wpAnyH_take (i := 4) (v := .pointer (some ⟨b, o + k * 129, none⟩)) rfl (by kernel_rfl) (by kernel_rfl) (by kernel_rfl) (fun _ _ _ h => h) (Or.inl ⟨by kernel_rfl, fun w hSw => by go_simp⟩) hHeld0 ?_
        simp only [Act.put, List.getElem_toArray, List.getElem_cons_succ, List.getElem_cons_zero, List.setIfInBounds_toArray, List.set_cons_zero, List.set_cons_succ]
        change wpAnyH _ _ _ _ _ 4 #[true, true, true, true, true, false, false, false, false] _ _
        refine wpAnyH_take (i := 5) (v := .pointer (some ⟨b, o + k * 129, none⟩)) rfl (by kernel_rfl) (by kernel_rfl) (by kernel_rfl) (fun _ _ _ h => h) (Or.inl ⟨by kernel_rfl, fun w hSw => by first | kernel_rfl | (go_simp; done)⟩) hHeld0 ?_
        simp only [Act.put, List.getElem_toArray, List.getElem_cons_succ, List.getElem_cons_zero, List.setIfInBounds_toArray, List.set_cons_zero, List.set_cons_succ]
        change wpAnyH _ _ _ _ _ 3 #[true, true, true, true, true, true, false, false, false] _ _
        refine wpAnyH_take (i := 6) (v := .int .i64 CC[k].pos) rfl (by kernel_rfl) (by kernel_rfl) (by kernel_rfl) (fun _ _ _ h => h) (Or.inl ⟨by kernel_rfl, fun w hSw => by have hcl := (fun W h => ((Held.f h).cell b _ hbl (fun h => h)).trans hpos) w hSw; go_simp⟩) hHeld0 ?_
        simp only [Act.put, List.getElem_toArray, List.getElem_cons_succ, List.getElem_cons_zero, List.setIfInBounds_toArray, List.set_cons_zero, List.set_cons_succ]
        change wpAnyH _ _ _ _ _ 2 #[true, true, true, true, true, true, true, false, false] _ _
        refine wpAnyH_ready (rs := [7]) (by kernel_rfl) (by simp) ?_
        refine AllReadyH.cons rfl (fun K hK => ?_) AllReadyH.nil
        simp only [List.getElem_toArray, List.getElem_cons_succ, List.getElem_cons_zero]
        refine (if_pos (by kernel_rfl)).mpr ?_
        go_wp2_with fail
        refine (HTH.out _).mono ?_
        rintro e wx0 ⟨rfl, hfx0⟩
        dsimp only
        refine hK.out _ _ (Held.keep hfx0 hHeld0) (fun hHeld1 => ?_)
        clear hK K hHeld0
        change wpAnyH _ _ _ _ _ 1 #[true, true, true, true, true, true, true, true, false] _ _
        refine wpAnyH_take (i := 8) (v := .bool false) rfl (by kernel_rfl) (by kernel_rfl) (by kernel_rfl) (fun _ _ _ h => h) (Or.inl ⟨by kernel_rfl, fun w hSw => by go_simp <;> (first | exact beq_iff_eq.1 (by assumption) | exact beq_eq_false_iff_ne.1 (by assumption) | omega)⟩) hHeld1 ?_
        simp only [Act.put, List.getElem_toArray, List.getElem_cons_succ, List.getElem_cons_zero, List.setIfInBounds_toArray, List.set_cons_zero, List.set_cons_succ]
        change wpAnyH _ _ _ _ _ 0 #[true, true, true, true, true, true, true, true, true] _ _
        refine wpAnyH_done (by kernel_rfl) ?_ _
        refine NoPanic.normal ?_
        have HFIN := Lib.hid (Held.f hHeld1)
        have HEND := Lib.hid hHeld1
        clear hHeld1
        go_wp2
        go_roundw
        case rel => exact ⟨k + 1, by omega, by go_num, by rw [all_take hlt, HALL.out, HT.out]; rfl, Held.a0 HEND.out, HFR.out.then0 HFIN.out⟩
        case measure => simp [intOf]; omega
      | false =>
        have HT := Lib.hid ht
        rw [ht] at HTH
        clear ht hrg
        go_wp2
        refine wp_region_noPanic ?_
        refine wp_region_held_drew (S := (Held wr [(w.heap.size, .cells (DC (.slice sa SS.length sc) (.slice (some ⟨b, o, none⟩) CC.length cc) ff dd) 25 (0, 0))])) (by kernel_rfl) (Held.drew H0.out) (fun hHeld0 => ?_)
        change wpAnyH _ _ _ _ _ 9 #[false, false, false, false, false, false, false, false, false] _ _
        refine wpAnyH_take (i := 0) (v := .agg (DC (.slice sa SS.length sc) (.slice (some ⟨b, o, none⟩) CC.length cc) ff dd)) rfl (by kernel_rfl) (by kernel_rfl) (by kernel_rfl) (fun _ _ _ h => h) (yields_row (by kernel_rfl) 25 _ rfl (w.heap.size) rfl 25 (DC (.slice sa SS.length sc) (.slice (some ⟨b, o, none⟩) CC.length cc) ff dd) (0, 0) _ (fun W h => Held.a0 h) Try.underlying25 rfl info_d) hHeld0 ?_
        simp only [Act.put, List.getElem_toArray, List.getElem_cons_succ, List.getElem_cons_zero, List.setIfInBounds_toArray, List.set_cons_zero, List.set_cons_succ]
        change wpAnyH _ _ _ _ _ 8 #[true, false, false, false, false, false, false, false, false] _ _
        refine wpAnyH_take (i := 1) (v := .pointer (some ⟨w.heap.size, 1, none⟩)) rfl (by kernel_rfl) (by kernel_rfl) (by kernel_rfl) (fun _ _ _ h => h) (Or.inl ⟨by kernel_rfl, fun w hSw => by first | kernel_rfl | (go_simp; done)⟩) hHeld0 ?_
        simp only [Act.put, List.getElem_toArray, List.getElem_cons_succ, List.getElem_cons_zero, List.setIfInBounds_toArray, List.set_cons_zero, List.set_cons_succ]
        change wpAnyH _ _ _ _ _ 7 #[true, true, false, false, false, false, false, false, false] _ _
        refine wpAnyH_take (i := 2) (v := .slice (some ⟨b, o, none⟩) CC.length cc) rfl (by kernel_rfl) (by kernel_rfl) (by kernel_rfl) (fun _ _ _ h => h) (Or.inl ⟨by kernel_rfl, fun w hSw => by have hcl := (fun W h => Bk.cell (Held.a0 h) 1) w hSw; go_simp⟩) hHeld0 ?_
        simp only [Act.put, List.getElem_toArray, List.getElem_cons_succ, List.getElem_cons_zero, List.setIfInBounds_toArray, List.set_cons_zero, List.set_cons_succ]
        change wpAnyH _ _ _ _ _ 6 #[true, true, true, false, false, false, false, false, false] _ _
        refine wpAnyH_take (i := 3) (v := .int .i64 (k : Int)) rfl (by kernel_rfl) (by kernel_rfl) (by kernel_rfl) (fun _ _ _ h => h) (Or.inl ⟨by kernel_rfl, fun w hSw => by first | kernel_rfl | (go_simp; done)⟩) hHeld0 ?_
        simp only [Act.put, List.getElem_toArray, List.getElem_cons_succ, List.getElem_cons_zero, List.setIfInBounds_toArray, List.set_cons_zero, List.set_cons_succ]
        change wpAnyH _ _ _ _ _ 5 #[true, true, true, true, false, false, false, false, false] _ _
        refine wpAnyH_take (i := 4) (v := .pointer (some ⟨b, o + k * 129, none⟩)) rfl (by kernel_rfl) (by kernel_rfl) (by kernel_rfl) (fun _ _ _ h => h) (Or.inl ⟨by kernel_rfl, fun w hSw => by go_simp⟩) hHeld0 ?_
        simp only [Act.put, List.getElem_toArray, List.getElem_cons_succ, List.getElem_cons_zero, List.setIfInBounds_toArray, List.set_cons_zero, List.set_cons_succ]
        change wpAnyH _ _ _ _ _ 4 #[true, true, true, true, true, false, false, false, false] _ _
        refine wpAnyH_take (i := 5) (v := .pointer (some ⟨b, o + k * 129, none⟩)) rfl (by kernel_rfl) (by kernel_rfl) (by kernel_rfl) (fun _ _ _ h => h) (Or.inl ⟨by kernel_rfl, fun w hSw => by first | kernel_rfl | (go_simp; done)⟩) hHeld0 ?_
        simp only [Act.put, List.getElem_toArray, List.getElem_cons_succ, List.getElem_cons_zero, List.setIfInBounds_toArray, List.set_cons_zero, List.set_cons_succ]
        change wpAnyH _ _ _ _ _ 3 #[true, true, true, true, true, true, false, false, false] _ _
        refine wpAnyH_take (i := 6) (v := .int .i64 CC[k].pos) rfl (by kernel_rfl) (by kernel_rfl) (by kernel_rfl) (fun _ _ _ h => h) (Or.inl ⟨by kernel_rfl, fun w hSw => by have hcl := (fun W h => ((Held.f h).cell b _ hbl (fun h => h)).trans hpos) w hSw; go_simp⟩) hHeld0 ?_
        simp only [Act.put, List.getElem_toArray, List.getElem_cons_succ, List.getElem_cons_zero, List.setIfInBounds_toArray, List.set_cons_zero, List.set_cons_succ]
        change wpAnyH _ _ _ _ _ 2 #[true, true, true, true, true, true, true, false, false] _ _
        refine wpAnyH_ready (rs := [7]) (by kernel_rfl) (by simp) ?_
        refine AllReadyH.cons rfl (fun K hK => ?_) AllReadyH.nil
        simp only [List.getElem_toArray, List.getElem_cons_succ, List.getElem_cons_zero]
        refine (if_pos (by kernel_rfl)).mpr ?_
        go_wp2_with fail
        refine (HTH.out _).mono ?_
        rintro e wx0 ⟨rfl, hfx0⟩
        dsimp only
        refine hK.out _ _ (Held.keep hfx0 hHeld0) (fun hHeld1 => ?_)
        clear hK K hHeld0
        change wpAnyH _ _ _ _ _ 1 #[true, true, true, true, true, true, true, true, false] _ _
        refine wpAnyH_take (i := 8) (v := .bool true) rfl (by kernel_rfl) (by kernel_rfl) (by kernel_rfl) (fun _ _ _ h => h) (Or.inl ⟨by kernel_rfl, fun w hSw => by go_simp <;> (first | exact beq_iff_eq.1 (by assumption) | exact beq_eq_false_iff_ne.1 (by assumption) | omega)⟩) hHeld1 ?_
        simp only [Act.put, List.getElem_toArray, List.getElem_cons_succ, List.getElem_cons_zero, List.setIfInBounds_toArray, List.set_cons_zero, List.set_cons_succ]
        change wpAnyH _ _ _ _ _ 0 #[true, true, true, true, true, true, true, true, true] _ _
        refine wpAnyH_done (by kernel_rfl) ?_ _
        refine NoPanic.normal ?_
        have HFIN := Lib.hid (Held.f hHeld1)
        have HEND := Lib.hid hHeld1
        clear hHeld1
        go_wp2
        go_ret
        refine ⟨?_, HFR.out.then0 HFIN.out⟩
        rw [HRV.out, formed_un (all_false hlt HT.out)]; rfl
    · obtain rfl : k = CC.length := by omega
      clear hlt
      have ha := HALL.out
      rw [List.take_length] at ha
      have HA := Lib.hid ha
      clear ha
      by_cases h1 : 1 ≤ SS.length
      · by_cases h2 : SS.length ≤ 4096
        · have c1 : decide ((SS.length : Int) ≤ 4096) = true := decide_eq_true (by omega)
          go_wp2
          go_ret
          refine ⟨?_, HFR.out⟩
          rw [HRV.out, formed_yes HA.out h1 h2]; rfl
        · have c1 : decide ((SS.length : Int) ≤ 4096) = false := decide_eq_false (by omega)
          go_wp2
          go_ret
          refine ⟨?_, HFR.out⟩
          rw [HRV.out, formed_no (fun h => h2 h.2)]; rfl
      · have c1 : decide ((1 : Int) ≤ (SS.length : Int)) = false := decide_eq_false (by omega)
        go_wp2
        go_ret
        refine ⟨?_, HFR.out⟩
        rw [HRV.out, formed_no (fun h => h1 h.1)]; rfl

end Go.Proofs.Ytboakipfhidkmaa.DiskAsk
