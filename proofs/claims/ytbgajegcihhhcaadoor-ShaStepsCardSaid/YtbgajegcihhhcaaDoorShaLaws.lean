/- The laws of layer 1, walked. -/
import Derived.Test.YtbgajegcihhhcaaDoorShaRSum
import Derived.Test.YtbgajegcihhhcaaDoorEqKit
import Derived.Lib.SlBytesConst
set_option linter.unusedVariables false
set_option linter.unusedSimpArgs false
namespace Go.Proofs.YtbgajegcihhhcaaDoor.ShaLaws
open Go Go.RowKit Go.Proofs.YtbgajegcihhhcaaDoor.K Go.Proofs.YtbgajegcihhhcaaDoor.ShaRot Go.Proofs.YtbgajegcihhhcaaDoor.ArrKit Go.Proofs.YtbgajegcihhhcaaDoor.ShaSpread Go.Proofs.YtbgajegcihhhcaaDoor.ShaStep Go.Proofs.YtbgajegcihhhcaaDoor.ShaRef Go.Proofs.YtbgajegcihhhcaaDoor.RefCopy Go.Proofs.YtbgajegcihhhcaaDoor.ShaPad Go.Proofs.YtbgajegcihhhcaaDoor.ShaSum Go.Proofs.YtbgajegcihhhcaaDoor.ShaRSum Go.Proofs.YtbgajegcihhhcaaDoor.EqKit

def abcSum : List UInt8 := [186, 120, 22, 191, 143, 1, 207, 234, 65, 65, 64, 222, 93, 174, 34, 35, 176, 3, 97, 163, 150, 23, 122, 156, 180, 16, 255, 97, 242, 0, 21, 173]
theorem sum_abc : sumOf [97, 98, 99] = abcSum := by kernel_rfl
theorem S8.mem_lt {s : S8} (h : s.ok) {v : Nat} (hv : v ∈ s.list) : v < 4294967296 := by
  obtain ⟨h1, h2, h3, h4, h5, h6, h7, h8⟩ := h
  simp only [S8.list, List.mem_cons, List.not_mem_nil, or_false] at hv
  rcases hv with rfl | rfl | rfl | rfl | rfl | rfl | rfl | rfl <;> assumption
set_option maxHeartbeats 2000000 in
set_option maxRecDepth 100000 in
theorem alive_calls (w : World) {tk tb : TypeId} (hK : Bk w 0 KC tk) (hB : Bk w 1 HB8 tb) : Calls Tryd.prog 7 #[] w fun e w' => e = .returned (.bool true) ∧ Fr0 w w' := by
  have HK := Lib.hid hK
  have HB := Lib.hid hB
  clear hK hB
  have kc := fun (w : World) (C : Array Value) (n c : Nat) => Lib.run_convert_bytes_const (P := Tryd.prog) w 22 5 C n c Tryd.underlying22 Tryd.underlying5
  have HF1 : Hid (Fr0 w (w.alloc (.cells #[.int .u8 97, .int .u8 98, .int .u8 99] 5 (3, 4)))) := Lib.hid (Fr.alloc (Fr.refl _ _) _)
  have HK1 : Hid (Bk (w.alloc (.cells #[.int .u8 97, .int .u8 98, .int .u8 99] 5 (3, 4))) 0 KC tk) := Lib.hid (Bk.alloc HK.out _)
  have HB1 : Hid (Bk (w.alloc (.cells #[.int .u8 97, .int .u8 98, .int .u8 99] 5 (3, 4))) 1 HB8 tb) := Lib.hid (Bk.alloc HB.out _)
  have HR1 : Hid (Rd (w.alloc (.cells #[.int .u8 97, .int .u8 98, .int .u8 99] 5 (3, 4))) (some ⟨w.heap.size, 0, none⟩) [97, 98, 99]) := Lib.hid (Rd.of fun i hi => by
    have h := cell_of_row (w.alloc (.cells #[.int .u8 97, .int .u8 98, .int .u8 99] 5 (3, 4))) w.heap.size (0 + i) _ _ _ (Bk.new w _)
    rw [h]
    match i, hi with
    | 0, _ => rfl
    | 1, _ => rfl
    | 2, _ => rfl)
  go_enter Tryd.func7, Tryd.ntmps7
  go_wp2_with (first | (go_at_call 14; (with_reducible refine (sum_calls (some ⟨w.heap.size, 0, none⟩) 3 3 [97, 98, 99] _ rfl HR1.out (by omega) HK1.out HB1.out).mono ?_); rintro e w2 ⟨rfl, hf2⟩; rw [sum_abc]; have HF2 := Lib.hid hf2; have HN2 : Hid (Bk (w2.alloc (.cells Z32 32)) w2.heap.size Z32 32) := Lib.hid (Bk.new _ _); clear hf2) | (refine wpList_store_row rfl 32 _ _ rfl w2.heap.size (abcSum.map B).toArray rfl rfl 32 Z32 HN2.out (by kernel_rfl) rfl (by kernel_rfl) ?_; change wpList _ _ _ _ _ ((w2.alloc (.cells Z32 32)).setRow w2.heap.size (abcSum.map B).toArray); have hS : Bk ((w2.alloc (.cells Z32 32)).setRow w2.heap.size (abcSum.map B).toArray) w2.heap.size (abcSum.map B).toArray 32 := ArrKit.Bk.row HN2.out _; have HFS : Hid (Fr0 w ((w2.alloc (.cells Z32 32)).setRow w2.heap.size (abcSum.map B).toArray)) := Lib.hid (ArrKit.Fr.row (Fr.alloc (HF1.out.then0 HF2.out) _) _ _ (.inl (Nat.le_trans HF1.out.size HF2.out.size))); have a0 := (Bk.cell hS 0).trans (show (abcSum.map B).toArray[0]? = some (.int .u8 186) by kernel_rfl); have a1 := (Bk.cell hS 1).trans (show (abcSum.map B).toArray[1]? = some (.int .u8 120) by kernel_rfl); have a31 := (Bk.cell hS 31).trans (show (abcSum.map B).toArray[31]? = some (.int .u8 173) by kernel_rfl); clear hS; generalize (w2.alloc (.cells Z32 32)).setRow w2.heap.size (abcSum.map B).toArray = w3 at *) | (go_at_call 9; (with_reducible refine (pad_calls none 0 0 [] _ rfl (Rd.nil _ _) (by omega)).mono ?_); rintro e w4 ⟨g, cap, cur, rfl, hge, hown, hfr⟩; have HF4 := Lib.hid hfr; clear hfr hown hge))
  all_goals go_ret
  exact ⟨rfl, HFS.out.then0 HF4.out⟩
def SW (w w' : World) (H : Nat) (bl : List UInt8) (hl : List Value) (tk tb : TypeId) : Prop := w'.rangeAt (H + 1) 0 (bl.map B) ∧ w'.rangeAt H 0 hl ∧ Bk w' 0 KC tk ∧ Bk w' 1 HB8 tb ∧ Fr0 w w'
theorem SW.k {w w' : World} {H : Nat} {bl : List UInt8} {hl : List Value} {tk tb : TypeId} (h : SW w w' H bl hl tk tb) : Bk w' 0 KC tk := h.2.2.1
theorem SW.b {w w' : World} {H : Nat} {bl : List UInt8} {hl : List Value} {tk tb : TypeId} (h : SW w w' H bl hl tk tb) : Bk w' 1 HB8 tb := h.2.2.2.1
theorem SW.f {w w' : World} {H : Nat} {bl : List UInt8} {hl : List Value} {tk tb : TypeId} (h : SW w w' H bl hl tk tb) : Fr0 w w' := h.2.2.2.2
theorem cell_keep {w1 w2 : World} (hf : Fr0 w1 w2) {b o : Nat} {v : Value} (h : w1.cell? ⟨b, o, none⟩ = some v) : w2.cell? ⟨b, o, none⟩ = some v := (hf.cell b o (World.block_lt_of_cell? w1 ⟨b, o, none⟩ h) (fun h => h)).trans h
theorem keepS {w w1 w2 : World} {H : Nat} {bl : List UInt8} {hl : List Value} {tk tb : TypeId} (hf : Fr0 w1 w2) (hs : SW w w1 H bl hl tk tb) : SW w w2 H bl hl tk tb := by
  obtain ⟨h0, h1, h9, h10, h11⟩ := hs
  exact ⟨fun j v hj => cell_keep hf (h0 j v hj), fun j v hj => cell_keep hf (h1 j v hj), hf.keep h9 (fun h => h), hf.keep h10 (fun h => h), h11.then0 hf⟩
theorem drewS {w w1 : World} {H : Nat} {bl : List UInt8} {hl : List Value} {tk tb : TypeId} (hs : SW w w1 H bl hl tk tb) : SW w w1.drew H bl hl tk tb := by
  obtain ⟨h0, h1, h9, h10, h11⟩ := hs
  exact ⟨h0, h1, h9, h10, h11.drew⟩
set_option maxHeartbeats 2000000 in
set_option maxRecDepth 100000 in
theorem steps_law (s : S8) (hs : s.ok) (b : List UInt8) (w : World) (hb : b.length = 64) {tk tb : TypeId} (hK : Bk w 0 KC tk) (hB : Bk w 1 HB8 tb) :
    Calls Tryd.prog 4 #[.agg (s.list.map U).toArray, .agg (b.map B).toArray] w fun e w' => e = .returned (.bool true) ∧ Fr0 w w' := by
  have HK := Lib.hid hK
  have HB := Lib.hid hB
  have HBL := Lib.hid hb
  have HO : Hid (stepOf s b).ok := Lib.hid (stepOf_ok s b)
  have HST : Hid (∀ (W : World), Bk W 0 KC tk → _) := Lib.hid (fun W hK => step_calls s hs b W hb hK)
  have HRT : Hid (∀ (W : World), _) := Lib.hid (fun W => rstep_calls s hs b W hb)
  generalize stepOf s b = out at *
  have heq := eq_row (k := .u32) Tryd.underlying28 Tryd.underlying27 (by kernel_rfl) (by kernel_rfl) (by kernel_rfl) (out.list.map fun n : Nat => (n : Int)) (out.list.map fun n : Nat => (n : Int)) rfl rfl (fun z hz => by
    obtain ⟨v, hv, rfl⟩ := List.mem_map.1 hz
    exact wf_u32 v (S8.mem_lt HO.out hv)) (fun z hz => by
    obtain ⟨v, hv, rfl⟩ := List.mem_map.1 hz
    exact wf_u32 v (S8.mem_lt HO.out hv))
  simp only [List.map_map, decide_true] at heq
  change ∀ W, (Op.equalIn 10000 28 (.agg (out.list.map U).toArray) (.agg (out.list.map U).toArray)).run Tryd.prog W = .ok true W at heq
  generalize (out.list.map U).toArray = oc at *
  have h8 : (s.list.map U).toArray.size = 8 := rfl
  have h8i : (Tryd.prog.info? 28).map (·.size) = some (s.list.map U).length := info8a
  generalize s.list.map U = hl at *
  have hw0 : SW w ((w.alloc (.cells hl.toArray 28)).alloc (.cells (b.map B).toArray 29)) w.heap.size b hl tk tb := by
    have h1 : Bk ((w.alloc (.cells hl.toArray 28)).alloc (.cells (b.map B).toArray 29)) w.heap.size _ 28 := Bk.alloc (Bk.new w _) _
    have h2 := Bk.new (w.alloc (.cells hl.toArray 28)) (.cells (b.map B).toArray 29)
    rw [show (w.alloc (.cells hl.toArray 28)).heap.size = w.heap.size + 1 by simp] at h2
    exact ⟨fun j v hj => (Bk.cell h2 (0 + j)).trans (by rw [Nat.zero_add, List.getElem?_toArray]; exact hj), fun j v hj => (Bk.cell h1 (0 + j)).trans (by rw [Nat.zero_add, List.getElem?_toArray]; exact hj), Bk.alloc (Bk.alloc HK.out _) _, Bk.alloc (Bk.alloc HB.out _) _, Fr.alloc (Fr.alloc (Fr.refl _ _) _) _⟩
  have HW0 := Lib.hid hw0
  have hun := Tryd.underlying29
  have hin : (Tryd.prog.info? 29).map (·.size) = some (b.map B).length := by rw [List.length_map, HBL.out]; kernel_rfl
  have HIN := Lib.hid hin
  have H8I := Lib.hid h8i
  have hcz : (b.map B).toArray.size = 64 := by simp [HBL.out]
  have hinfo : (Tryd.prog.info? 29).map (·.size) = some 64 := by kernel_rfl
  clear hw0 hK hB hs hb hin h8i
  generalize hbl : b.map B = bl at *
  have HBM := Lib.hid hbl
  clear hbl
  generalize hca : hl.toArray = ca at *
  have HCA := Lib.hid hca
  generalize hcb : bl.toArray = cb at *
  have HCB := Lib.hid hcb
  clear hca hcb
  go_enter Tryd.func4, Tryd.ntmps4
  go_wp2_with fail
  refine wp_region_noPanic ?_
  refine wp_region_held_drew (S := fun w' => SW w w' w.heap.size b hl tk tb) (by kernel_rfl) (drewS HW0.out) (fun hHeld => ?_)
  change wpAnyH _ _ _ _ _ 11 #[false, false, false, false, false, false, false, false, false, false, false] _ _
  refine wpAnyH_ready (rs := [0]) (by kernel_rfl) (by simp) ?_
  refine AllReadyH.cons rfl (fun K hK => ?_) AllReadyH.nil
  have hk := Lib.hid (SW.k hHeld)
  have hb0 := Lib.hid (SW.b hHeld)
  simp only [List.getElem_toArray, List.getElem_cons_succ, List.getElem_cons_zero]
  go_wp2_with fail
  refine (alive_calls _ hk.out hb0.out).mono ?_
  rintro e w1 ⟨rfl, hf1⟩
  dsimp only
  refine hK.out _ _ (keepS hf1 hHeld) (fun hHeld1 => ?_)
  clear hK K hHeld
  change wpAnyH _ _ _ _ _ 10 #[true, false, false, false, false, false, false, false, false, false, false] _ _
  refine wpAnyH_take (i := 1) (v := .bool true) rfl (by kernel_rfl) (by kernel_rfl) (by kernel_rfl) (fun _ _ _ h => h) (Or.inl ⟨by rfl, fun w hSw => rfl⟩) hHeld1 ?_
  simp only [Act.put, List.setIfInBounds_toArray, List.set_cons_zero, List.set_cons_succ]
  change wpAnyH _ _ _ _ _ 9 #[true, true, false, false, false, false, false, false, false, false, false] _ _
  refine wpAnyH_take (i := 3) (v := .agg bl.toArray) rfl (by kernel_rfl) (by kernel_rfl) (by kernel_rfl) (fun _ _ _ h => h) (yieldsIf_load_mid (by rfl) 29 _ rfl (w.heap.size + 1) 0 rfl bl _ (fun w h => HBM.out ▸ h.1) Tryd.underlying29 rfl HIN.out) hHeld1 ?_
  simp only [Act.put, List.setIfInBounds_toArray, List.set_cons_zero, List.set_cons_succ]
  change wpAnyH _ _ _ _ _ 8 #[true, true, false, true, false, false, false, false, false, false, false] _ _
  refine wpAnyH_take (i := 6) (v := .agg bl.toArray) rfl (by kernel_rfl) (by kernel_rfl) (by kernel_rfl) (fun _ _ _ h => h) (yieldsIf_load_mid (by rfl) 29 _ rfl (w.heap.size + 1) 0 rfl bl _ (fun w h => HBM.out ▸ h.1) Tryd.underlying29 rfl HIN.out) hHeld1 ?_
  simp only [Act.put, List.setIfInBounds_toArray, List.set_cons_zero, List.set_cons_succ]
  change wpAnyH _ _ _ _ _ 7 #[true, true, false, true, false, false, true, false, false, false, false] _ _
  refine wpAnyH_take (i := 2) (v := .agg hl.toArray) rfl (by kernel_rfl) (by kernel_rfl) (by kernel_rfl) (fun _ _ _ h => h) (yieldsIf_load_mid (by rfl) 28 _ rfl w.heap.size 0 rfl hl _ (fun w h => h.2.1) Tryd.underlying28 rfl H8I.out) hHeld1 ?_
  simp only [Act.put, List.setIfInBounds_toArray, List.set_cons_zero, List.set_cons_succ]
  change wpAnyH _ _ _ _ _ 6 #[true, true, true, true, false, false, true, false, false, false, false] _ _
  refine wpAnyH_take (i := 5) (v := .agg hl.toArray) rfl (by kernel_rfl) (by kernel_rfl) (by kernel_rfl) (fun _ _ _ h => h) (yieldsIf_load_mid (by rfl) 28 _ rfl w.heap.size 0 rfl hl _ (fun w h => h.2.1) Tryd.underlying28 rfl H8I.out) hHeld1 ?_
  simp only [Act.put, List.setIfInBounds_toArray, List.set_cons_zero, List.set_cons_succ]
  change wpAnyH _ _ _ _ _ 5 #[true, true, true, true, false, true, true, false, false, false, false] _ _
  rw [HCA.out, HCB.out]
  refine wpAnyH_ready (rs := [4]) (by kernel_rfl) (by simp) ?_
  refine AllReadyH.cons rfl (fun K hK => ?_) AllReadyH.nil
  have hk1 := Lib.hid (SW.k hHeld1)
  simp only [List.getElem_toArray, List.getElem_cons_succ, List.getElem_cons_zero]
  go_wp2_with fail
  refine (HST.out _ hk1.out).mono ?_
  rintro e w2 ⟨rfl, hf2⟩
  dsimp only
  refine hK.out _ _ (keepS hf2 hHeld1) (fun hHeld2 => ?_)
  clear hK K hHeld1
  change wpAnyH _ _ _ _ _ 4 #[true, true, true, true, true, true, true, false, false, false, false] _ _
  refine wpAnyH_ready (rs := [7]) (by kernel_rfl) (by simp) ?_
  refine AllReadyH.cons rfl (fun K hK => ?_) AllReadyH.nil
  simp only [List.getElem_toArray, List.getElem_cons_succ, List.getElem_cons_zero]
  refine (if_pos (by kernel_rfl)).mpr ?_
  go_wp2_with fail
  refine (HRT.out _).mono ?_
  rintro e w3 ⟨rfl, hf3⟩
  dsimp only
  refine hK.out _ _ (keepS hf3 hHeld2) (fun hHeld3 => ?_)
  clear hK K hHeld2
  change wpAnyH _ _ _ _ _ 3 #[true, true, true, true, true, true, true, true, false, false, false] _ _
  refine wpAnyH_take (i := 8) (v := .bool true) rfl (by kernel_rfl) (by kernel_rfl) (by kernel_rfl) (fun _ _ _ h => h) (Or.inl ⟨by rfl, fun w hSw => run_eql_op rfl rfl rfl (by kernel_rfl) heq w⟩) hHeld3 ?_
  simp only [Act.put, List.setIfInBounds_toArray, List.set_cons_zero, List.set_cons_succ]
  change wpAnyH _ _ _ _ _ 2 #[true, true, true, true, true, true, true, true, true, false, false] _ _
  refine wpAnyH_ready (rs := [9]) (by kernel_rfl) (by simp) ?_
  refine AllReadyH.cons rfl (fun K hK => ?_) AllReadyH.nil
  simp only [List.getElem_toArray, List.getElem_cons_succ, List.getElem_cons_zero]
  refine (if_pos (by kernel_rfl)).mpr ?_
  go_wp2_with fail
  refine hK.out _ _ hHeld3 (fun _ => ?_)
  clear hK K
  change wpAnyH _ _ _ _ _ 1 #[true, true, true, true, true, true, true, true, true, true, false] _ _
  refine wpAnyH_ready (rs := [10]) (by kernel_rfl) (by simp) ?_
  refine AllReadyH.cons rfl (fun K hK => ?_) AllReadyH.nil
  simp only [List.getElem_toArray, List.getElem_cons_succ, List.getElem_cons_zero]
  refine (if_pos (by kernel_rfl)).mpr ?_
  go_wp2_with fail
  refine hK.out _ _ hHeld3 (fun _ => ?_)
  clear hK K
  change wpAnyH _ _ _ _ _ 0 #[true, true, true, true, true, true, true, true, true, true, true] _ _
  refine wpAnyH_done (by kernel_rfl) ?_ _
  refine NoPanic.normal ?_
  have HF := Lib.hid (SW.f hHeld3)
  clear hHeld3
  go_wp2_with fail
  all_goals go_ret
  exact ⟨rfl, HF.out⟩
set_option maxHeartbeats 2000000 in
set_option maxRecDepth 100000 in
theorem sums_law (a : Option Addr) (n c : Nat) (l : List UInt8) (w : World) (hl : l.length = n) (hrd : Rd w a l) (hn : n ≤ 140737488351232) {tk tb : TypeId} (hK : Bk w 0 KC tk) (hB : Bk w 1 HB8 tb) :
    Calls Tryd.prog 5 #[.slice a n c] w fun e w' => e = .returned (.bool true) ∧ Fr0 w w' := by
  have HK := Lib.hid hK
  have HB := Lib.hid hB
  have HL := Lib.hid hl
  have HR := Lib.hid hrd
  clear hK hB hl hrd
  by_cases hx : 65536 < n
  · have cz : decide (65536 < (n : Int)) = true := decide_eq_true (by omega)
    go_enter Tryd.func5, Tryd.ntmps5
    go_wp2_with (go_at_call 7; (with_reducible refine (alive_calls _ HK.out HB.out).mono ?_); rintro e w1 ⟨rfl, hf1⟩; have HF1 := Lib.hid hf1; clear hf1)
    go_ret
    exact ⟨rfl, HF1.out⟩
  · have cz : decide (65536 < (n : Int)) = false := decide_eq_false (by omega)
    have heq := eq_bytes (P := Tryd.prog) Tryd.underlying32 Tryd.underlying5 (by kernel_rfl) (by kernel_rfl) (by kernel_rfl) (sumOf l) (sumOf l) (sumOf_length l) (sumOf_length l)
    simp only [decide_true] at heq
    go_enter Tryd.func5, Tryd.ntmps5
    go_wp2_with (first | (go_at_call 7; (with_reducible refine (alive_calls _ HK.out HB.out).mono ?_); rintro e w1 ⟨rfl, hf1⟩; have HF1 := Lib.hid hf1; have HK1 := Lib.hid (hf1.keep HK.out (fun h => h)); have HB1 := Lib.hid (hf1.keep HB.out (fun h => h)); have HR1 := Lib.hid (HR.out.later hf1 (fun _ _ h => h)); clear hf1) | (go_at_call 8; (with_reducible refine (copy_calls a n c l _ HL.out HR1.out hn).mono ?_); rintro e w2 ⟨g0, cap0, cur0, rfl, hge0, hown0, hfr0⟩; have HO2 := Lib.hid hown0; have HF2 := Lib.hid hfr0; have HK2 := Lib.hid (hfr0.keep HK1.out (fun h => h)); have HB2 := Lib.hid (hfr0.keep HB1.out (fun h => h)); have HR2 := Lib.hid (HR1.out.later hfr0 (fun _ _ h => h)); clear hown0 hfr0 hge0) | (go_at_call 14; (with_reducible refine (sum_calls _ n cap0 l _ HL.out HO2.out.rd hn HK2.out HB2.out).mono ?_); rintro e w3 ⟨rfl, hf3⟩; have HF3 := Lib.hid hf3; have HR3 := Lib.hid (HR2.out.later hf3 (fun _ _ h => h)); have HO3 := Lib.hid (HO2.out.keep hf3 (fun h => h)); clear hf3) | (go_at_call 15; (with_reducible refine (rsum_calls a n c l _ HL.out HR3.out hn).mono ?_); rintro e w4 ⟨rfl, hf4⟩; have HF4 := Lib.hid hf4; have HR4 := Lib.hid (HR3.out.later hf4 (fun _ _ h => h)); have HO4 := Lib.hid (HO3.out.keep hf4 (fun h => h)); clear hf4) | (go_at_call 10; (with_reducible refine (same_calls _ a n n cap0 c l l _ HL.out HO4.out.rd HL.out HR4.out).mono ?_); rintro e w5 ⟨rfl, rfl⟩))
    go_ret
    exact ⟨by simp, (((HF1.out.then0 HF2.out).then0 HF3.out).then0 HF4.out)⟩
theorem own_head {w : World} {g m cap : Nat} {cur : Array Value} {l r : List UInt8} (h : Own w g m cap cur (l ++ r)) : Rd w (some ⟨g, 0, none⟩) l := Rd.block h.blk (fun i hi => by
  rw [Nat.zero_add, h.here i (by simp; omega)]
  simp [hi])
theorem pad_split (l : List UInt8) : padOf l = l ++ ([128] ++ List.replicate (zs l.length) 0 ++ be8 (8 * l.length)) := by simp [padOf]
set_option maxHeartbeats 2000000 in
set_option maxRecDepth 100000 in
theorem begins_law (a : Option Addr) (n c : Nat) (l : List UInt8) (w : World) (hl : l.length = n) (hrd : Rd w a l) (hn : n ≤ 140737488351232) {tk tb : TypeId} (hK : Bk w 0 KC tk) (hB : Bk w 1 HB8 tb) :
    Calls Tryd.prog 6 #[.slice a n c] w fun e w' => e = .returned (.bool true) ∧ Fr0 w w' := by
  have HK := Lib.hid hK
  have HB := Lib.hid hB
  have HL := Lib.hid hl
  have HR := Lib.hid hrd
  obtain ⟨T, hT⟩ : ∃ T, (padOf l).length = T := ⟨_, rfl⟩
  have hTn : T = n + 1 + (119 - n % 64) % 64 + 8 := by rw [← hT, padOf_length, zs, hl]
  have c1 : ((T : Int) % 64 == 0) = true := by rw [beq_iff_eq]; omega
  have c2 : decide ((n : Int) + 8 < T) = true := decide_eq_true (by omega)
  have c3 : decide ((T : Int) ≤ n + 72) = true := decide_eq_true (by omega)
  have c4 : n < T := by omega
  have c5 : n ≤ T := by omega
  have hTm : T ≤ 140737488351400 := by omega
  have HT := Lib.hid hT
  clear hK hB hl hrd hT hTn
  go_enter Tryd.func6, Tryd.ntmps6
  go_wp2_with (first | (go_at_call 7; (with_reducible refine (alive_calls _ HK.out HB.out).mono ?_); rintro e w1 ⟨rfl, hf1⟩; have HF1 := Lib.hid hf1; have HR1 := Lib.hid (HR.out.later hf1 (fun _ _ h => h)); clear hf1) | (go_at_call 9; (with_reducible refine (pad_calls a n c l _ HL.out HR1.out hn).mono ?_); rintro e w2 ⟨g, cap, cur, rfl, hge, hown, hfr⟩; have HO2 := Lib.hid hown; have HF2 := Lib.hid hfr; have HR2 := Lib.hid (HR1.out.later hfr (fun _ _ h => h)); have hcap : n ≤ cap := Nat.le_trans c5 (HT.out ▸ hown.room); have HP2 : Hid (Rd w2 (some ⟨g, 0, none⟩) l) := Lib.hid (own_head (pad_split l ▸ hown)); have hcl : w2.cell? ⟨g, n, none⟩ = some (.int .u8 128) := (hown.blk.cell n).trans ((hown.here n (by rw [HT.out]; exact c4)).trans (by simp [padOf, ← HL.out, B])); clear hown hfr hge; rw [HT.out]) | (go_at_call 10; (with_reducible refine (same_calls _ a n n cap c l l _ HL.out HP2.out HL.out HR2.out).mono ?_); rintro e w5 ⟨rfl, rfl⟩))
  all_goals go_ret
  exact ⟨by simp, HF1.out.then0 HF2.out⟩
set_option maxHeartbeats 2000000 in
set_option maxRecDepth 100000 in
theorem pads_law (a : Option Addr) (n c : Nat) (l : List UInt8) (w : World) (hl : l.length = n) (hrd : Rd w a l) (hn : n ≤ 140737488351232) {tk tb : TypeId} (hK : Bk w 0 KC tk) (hB : Bk w 1 HB8 tb) :
    Calls Tryd.prog 3 #[.slice a n c] w fun e w' => e = .returned (.bool true) ∧ Fr0 w w' := by
  have HK := Lib.hid hK
  have HB := Lib.hid hB
  have HL := Lib.hid hl
  have HR := Lib.hid hrd
  obtain ⟨T, hT⟩ : ∃ T, (padOf l).length = T := ⟨_, rfl⟩
  have hTn : T = n + 1 + (119 - n % 64) % 64 + 8 := by rw [← hT, padOf_length, zs, hl]
  have hTm : T ≤ 140737488351400 := by omega
  have HT := Lib.hid hT
  clear hK hB hl hrd hT hTn
  go_enter Tryd.func3, Tryd.ntmps3
  go_wp2_with (first | (go_at_call 7; (with_reducible refine (alive_calls _ HK.out HB.out).mono ?_); rintro e w1 ⟨rfl, hf1⟩; have HF1 := Lib.hid hf1; have HR1 := Lib.hid (HR.out.later hf1 (fun _ _ h => h)); clear hf1) | (go_at_call 8; (with_reducible refine (copy_calls a n c l _ HL.out HR1.out hn).mono ?_); rintro e w2 ⟨g0, cap0, cur0, rfl, hge0, hown0, hfr0⟩; have HO2 := Lib.hid hown0; have HF2 := Lib.hid hfr0; have HG2 := Lib.hid hge0; have HR2 := Lib.hid (HR1.out.later hfr0 (fun _ _ h => h)); clear hown0 hfr0 hge0) | (go_at_call 9; (with_reducible refine (pad_calls _ n cap0 l _ HL.out HO2.out.rd hn).mono ?_); rintro e w3 ⟨g, cap, cur, rfl, hge, hown, hfr⟩; have HP3 := Lib.hid hown; have HF3 := Lib.hid hfr; have HG3 := Lib.hid hge; have HR3 := Lib.hid (HR2.out.later hfr (fun _ _ h => h)); have HO3 := Lib.hid (HO2.out.keep hfr (fun h => h)); clear hown hfr hge; rw [HT.out]) | (go_at_call 11; (with_reducible refine (rpad_calls a n c l _ HL.out HR3.out hn).mono ?_); rintro e w4 ⟨g1, cap1, cur1, rfl, hge, hown, hfr⟩; have HQ4 := Lib.hid hown; have HF4 := Lib.hid hfr; have HR4 := Lib.hid (HR3.out.later hfr (fun _ _ h => h)); have HO4 := Lib.hid (HO3.out.keep hfr (fun h => h)); have HP4 := Lib.hid (HP3.out.keep hfr (fun h => h)); clear hown hfr hge; rw [HT.out]) | (go_at_call 10; (with_reducible refine (same_calls _ _ T T cap cap1 (padOf l) (padOf l) _ HT.out HP4.out.rd HT.out HQ4.out.rd).mono ?_); rintro e w5 ⟨rfl, rfl⟩))
  have hne : w.heap.size ≤ g ∧ g0 < g := ⟨Nat.le_trans (Nat.le_trans HF1.out.size HF2.out.size) HG3.out, Nat.lt_of_lt_of_le (Bk.lt HO2.out.blk) HG3.out⟩
  have HNE := Lib.hid hne
  have HFF := Lib.hid (((HF1.out.then0 HF2.out).then0 HF3.out).then0 HF4.out)
  clear hne
  go_loopw [6] (fun i wr => ∃ k : Nat, k ≤ T ∧ i = .int .i64 k ∧ ∃ cur p', Own wr g T cap cur p' ∧ Rd wr a l ∧ Own wr g0 n cap0 cur0 l ∧ Fr0 w wr) (fun i _ => T - (intOf i).toNat)
  case atStart => exact ⟨0, by omega, rfl, cur, padOf l, HT.out ▸ HP4.out, HR4.out, HO4.out, HFF.out⟩
  case round =>
    obtain ⟨k, hk, rfl, cur, p', ho, hr, ho0, hf⟩ := hrel
    have KO := Lib.hid ho
    have KR := Lib.hid hr
    have K0 := Lib.hid ho0
    have KF := Lib.hid hf
    clear ho hr ho0 hf HFF HP4 HR4 HO4 HF1 HF2 HF3 HF4 HG3 HO2 HG2
    by_cases hlt : k < T
    rotate_left
    · have cz : decide (k < T) = false := decide_eq_false (by omega)
      go_wp2_with (go_at_call 10; (with_reducible refine (same_calls _ a n n cap0 c l l _ HL.out K0.out.rd HL.out KR.out).mono ?_); rintro e w5 ⟨rfl, rfl⟩)
      all_goals go_ret
      exact ⟨by simp, KF.out⟩
    · have cz : decide (k < T) = true := decide_eq_true (by omega)
      have hkl : k < p'.length := by rw [KO.out.len]; exact hlt
      have hcl := (KO.out.blk.cell k).trans (KO.out.here k hkl)
      rw [B_def] at hcl
      have hv := p'[k].toNat_lt
      have hfz := KO.out.blk.free k
      have hx := u8_xor_nat p'[k].toNat 255 hv (by decide)
      have hy : p'[k].toNat ^^^ 255 < 256 := Nat.xor_lt_two_pow (n := 8) hv (by decide)
      generalize p'[k].toNat = v at *
      generalize v ^^^ 255 = z at *
      simp only [Int.cast_ofNat_Int] at hx
      go_wp2
      refine ⟨⟨k + 1, by omega, by go_num, cur.setIfInBounds k (.int .u8 (z : Int)), p'.set k (UInt8.ofNat z), ⟨KO.out.blk.set _ _, by simp [KO.out.len], KO.out.room, by simp [KO.out.size], KO.out.cap, fun i hi => ?_⟩, Rd.past HR.out KR.out ((Fr.refl (· = g) wr).set _ _ (.inr rfl)) (fun b hb e => by have := HNE.out; omega), K0.out.keep ((Fr.refl (· = g) wr).set ⟨g, k, none⟩ _ (.inr rfl)) (by have := HNE.out; omega), KF.out.set _ _ (.inl HNE.out.1)⟩, by simp [intOf]; omega⟩
      rw [Array.getElem?_setIfInBounds, List.getElem_set]
      have hi' : i < p'.length := by simpa using hi
      by_cases he : k = i
      · rw [if_pos he, if_pos he, if_pos (by rw [KO.out.size]; exact Nat.lt_of_lt_of_le hlt KO.out.room), B_ofNat, Nat.mod_eq_of_lt hy]
      · rw [if_neg he, if_neg he]
        exact KO.out.here i hi'

end Go.Proofs.YtbgajegcihhhcaaDoor.ShaLaws
