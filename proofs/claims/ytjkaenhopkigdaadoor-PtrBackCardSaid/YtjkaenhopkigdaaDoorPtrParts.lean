/- The pointers of a node: the walk of ptr.Parts. -/
import Derived.Test.YtjkaenhopkigdaaDoorPtrNode
import Derived.Test.YtjkaenhopkigdaaDoorPtrOwn
import Derived.Test.YtjkaenhopkigdaaDoorPtrRTake
set_option linter.unusedVariables false
set_option linter.unusedSimpArgs false
namespace Go.Proofs.YtjkaenhopkigdaaDoor.PtrParts
open Go Go.RowKit Go.Proofs.YtjkaenhopkigdaaDoor.K Go.Proofs.YtjkaenhopkigdaaDoor.EqKit Go.Proofs.YtjkaenhopkigdaaDoor.PtrKit Go.Proofs.YtjkaenhopkigdaaDoor.ArrKit Go.Proofs.YtjkaenhopkigdaaDoor.HeldKit Go.Proofs.YtjkaenhopkigdaaDoor.PtrAsk Go.Proofs.YtjkaenhopkigdaaDoor.ShaStep Go.Proofs.YtjkaenhopkigdaaDoor.ShaRef Go.Proofs.YtjkaenhopkigdaaDoor.ShaSum Go.Proofs.YtjkaenhopkigdaaDoor.PtrOf Go.Proofs.YtjkaenhopkigdaaDoor.RefCopy Go.Proofs.YtjkaenhopkigdaaDoor.WordPut Go.Proofs.YtjkaenhopkigdaaDoor.WordTake Go.Proofs.YtjkaenhopkigdaaDoor.PtrPut Go.Proofs.YtjkaenhopkigdaaDoor.PtrTake Go.Proofs.YtjkaenhopkigdaaDoor.PtrRTake Go.Proofs.YtjkaenhopkigdaaDoor.PtrOwn Go.Proofs.YtjkaenhopkigdaaDoor.PtrRFit Go.Proofs.YtjkaenhopkigdaaDoor.PtrNode

/-- the 40 bytes of part i -/
def part (bl : List UInt8) (i : Nat) : List UInt8 := (bl.drop (40 * i)).take 40
def pv (bl : List UInt8) (i : Nat) : V3 := ⟨tkA (part bl i), tkB (part bl i), tkS (part bl i)⟩
def partsR (bl : List UInt8) : Nat → Bool
  | 0 => true
  | k + 1 => partsR bl k && tkR (part bl k)
theorem partsR_le {bl : List UInt8} {k : Nat} (h : partsR bl k = false) : ∀ m, k ≤ m → partsR bl m = false := by
  intro m hm
  induction m with
  | zero => have : k = 0 := by omega
            subst this; exact h
  | succ m ih =>
    by_cases e : k = m + 1
    · subst e; exact h
    · rw [partsR, ih (by omega)]; rfl
def partsL (bl : List UInt8) : Nat → List Value
  | 0 => []
  | k + 1 => partsL bl k ++ (pv bl k).pc
theorem part_length {bl : List UInt8} (h : bl.length = 128) {i : Nat} (hi : i < 3) : (part bl i).length = 40 := by simp [part, h]; omega
theorem pv_ok {bl : List UInt8} (h : bl.length = 128) {i : Nat} (hi : i < 3) : (pv bl i).ok := by
  have hm := part_length h hi
  exact ⟨tkS_length _ hm, dec_wf _ (num4 _ (by rw [List.length_take]; omega)), dec_wf _ (num4 _ (by rw [List.length_take]; omega))⟩
theorem partsL_length {bl : List UInt8} (h : bl.length = 128) : ∀ k, k ≤ 3 → (partsL bl k).length = 34 * k
  | 0, _ => rfl
  | k + 1, hk => by
    rw [partsL, List.length_append, partsL_length h k (by omega), V3.pc, PC_length, (pv_ok h (by omega)).len]; omega
def partsOK (bl : List UInt8) : Bool := partsR bl 3 && allZ (bl.drop 120)
def ZERO3 : Array Value := (ZERO.toList ++ (ZERO.toList ++ ZERO.toList)).toArray
theorem ZERO3_size : ZERO3.size = 102 := by simp [ZERO3, ZERO]
theorem ZERO3_one : ZERO3.all (·.oneCell') = true := by kernel_rfl
theorem info3 : (Tryd.prog.info? 46).map (·.size) = some 102 := by kernel_rfl
def partsX (bl : List UInt8) : Array Value := if partsOK bl then (partsL bl 3).toArray else ZERO3
def partsE (bl : List UInt8) : Int := if partsOK bl then 0 else 15
theorem lay_parts {bl : List UInt8} (h : bl.length = 128) : lay ZERO3 0 (partsL bl 3) = (partsL bl 3).toArray := by
  apply Array.ext_getElem?
  intro i
  have hl := partsL_length h 3 (Nat.le_refl _)
  rw [lay_get, hl, ZERO3_size]
  by_cases h1 : i < 102
  · rw [if_pos (by omega)]; simp
  · rw [if_neg (by omega), Array.getElem?_eq_none (by rw [ZERO3_size]; omega), Array.getElem?_eq_none (by rw [List.size_toArray, hl]; omega)]
set_option maxHeartbeats 2000000 in
set_option maxRecDepth 100000 in
theorem parts_all (bl : List UInt8) (w : World) (hbl : bl.length = 128) :
    Calls Tryd.prog 28 #[.agg (bl.map B).toArray] w fun e w' => e = .returned (.tuple #[.agg (partsX bl), .int .i64 (partsE bl)]) ∧ Fr0 w w' := by
  have hz : ∀ W, (zeroValue 46).run Tryd.prog W = .ok (.agg ZERO3) W := by intro W; kernel_rfl
  obtain ⟨RV, hRV, hvt, hvf⟩ : ∃ RV : Value, RV = .tuple #[.agg (partsX bl), .int .i64 (partsE bl)] ∧ (partsOK bl = true → RV = .tuple #[.agg (partsL bl 3).toArray, .int .i64 0]) ∧ (partsOK bl = false → RV = .tuple #[.agg ZERO3, .int .i64 15]) := ⟨_, rfl, fun h => by rw [partsX, partsE, h]; rfl, fun h => by rw [partsX, partsE, h]; rfl⟩
  rw [← hRV]
  have HVT := Lib.hid hvt
  have HVF := Lib.hid hvf
  clear hRV hvt hvf
  have HBL := Lib.hid hbl
  generalize hxx : (bl.map B).toArray = X at *
  have HXX := Lib.hid hxx
  clear hbl hxx
  have HRD : Hid (∀ W : World, Bk W w.heap.size X 22 → Rd W (some ⟨w.heap.size, 0, none⟩) bl) := Lib.hid (fun W h => Rd.block h (fun i hi => by rw [Nat.zero_add, ← HXX.out]; simp [hi]))
  have hs1 : (w.alloc (.cells X 22)).heap.size = w.heap.size + 1 := by simp
  have hs2 : ((w.alloc (.cells X 22)).alloc (.cells ZERO3 46)).heap.size = w.heap.size + 1 + 1 := by simp
  have HX0 : Hid (Bk (((w.alloc (.cells X 22)).alloc (.cells ZERO3 46)).alloc (.cells ZERO3 46)) w.heap.size X 22) := Lib.hid (Bk.alloc (Bk.alloc (Bk.new w _) _) _)
  have HR0 : Hid (Bk (((w.alloc (.cells X 22)).alloc (.cells ZERO3 46)).alloc (.cells ZERO3 46)) (w.heap.size + 1) ZERO3 46) := Lib.hid (Bk.alloc (by have := Bk.new (w.alloc (.cells X 22)) (.cells ZERO3 46); rwa [hs1] at this) _)
  have HG0 : Hid (Bk (((w.alloc (.cells X 22)).alloc (.cells ZERO3 46)).alloc (.cells ZERO3 46)) (w.heap.size + 1 + 1) ZERO3 46) := Lib.hid (by have := Bk.new ((w.alloc (.cells X 22)).alloc (.cells ZERO3 46)) (.cells ZERO3 46); rwa [hs2] at this)
  have HF0 : Hid (Fr0 w (((w.alloc (.cells X 22)).alloc (.cells ZERO3 46)).alloc (.cells ZERO3 46))) := Lib.hid (Fr.alloc (Fr.alloc (Fr.alloc (Fr.refl _ _) _) _) _)
  have hGX : w.heap.size + 1 + 1 ≠ w.heap.size := by omega
  have hGR : w.heap.size + 1 + 1 ≠ w.heap.size + 1 := by omega
  have hwG : w.heap.size ≤ w.heap.size + 1 + 1 := by omega
  have hwR : w.heap.size ≤ w.heap.size + 1 := by omega
  clear hs1 hs2
  go_enter Tryd.func28, Tryd.ntmps28
  go_wp2_with fail
  generalize ((w.alloc (.cells X 22)).alloc (.cells ZERO3 46)).alloc (.cells ZERO3 46) = w0 at *
  generalize w.heap.size + 1 + 1 = G at *
  generalize w.heap.size + 1 = R at *
  go_loopw [8] (fun u wr => ∃ k : Nat, k ≤ 3 ∧ u = .int .i64 k ∧ partsR bl k = true ∧ Bk wr G (lay ZERO3 0 (partsL bl k)) 46 ∧ Bk wr R ZERO3 46 ∧ Bk wr w.heap.size X 22 ∧ Fr0 w wr) (fun u _ => 3 - (intOf u).toNat)
  case atStart => exact ⟨0, by omega, rfl, rfl, HG0.out, HR0.out, HX0.out, HF0.out⟩
  case round =>
    obtain ⟨k, hk, rfl, hnr, hgk, hrk, hxk, hfk⟩ := hrel
    have HNR := Lib.hid hnr
    have HGK := Lib.hid hgk
    have HRK := Lib.hid hrk
    have HXK := Lib.hid hxk
    have HFK := Lib.hid hfk
    clear hnr hgk hrk hxk hfk
    by_cases hlt : k < 3
    · have c9 : decide ((k : Int) < 3) = true := decide_eq_true (by omega)
      have hk3 : (k : Int) < 3 := by omega
      have HLT := Lib.hid hlt
      have HTK : Hid (∀ W : World, Bk W w.heap.size X 22 → Calls Tryd.prog 21 #[.slice (some ⟨w.heap.size, 0, none⟩) 128 128, .int .i64 (40 * (k : Int))] W fun e w' => e = .returned (tkV (part bl k)) ∧ Fr0 W w') := Lib.hid (fun W h => by
        have hlt := HLT.out
        have := take_some w.heap.size 0 128 128 (40 * k) (part bl k) W (part_length HBL.out hlt) ((HRD.out W h).sub (40 * k) 40) (by omega) (by omega) (by omega) (by omega)
        rw [show ((40 * k : Nat) : Int) = 40 * (k : Int) by omega] at this
        exact this)
      have hpv := pv_ok HBL.out hlt
      have HIV : Hid ((Tryd.prog.info? 26).map (·.size) = some (pv bl k).pc.toArray.size) := Lib.hid (by rw [info_p, List.size_toArray, V3.pc, PC_length, hpv.len])
      have HZV : Hid (ZERO.size = (pv bl k).pc.toArray.size) := Lib.hid ((show ZERO.size = 34 from rfl).trans (by rw [List.size_toArray, V3.pc, PC_length, hpv.len]))
      have HVO : Hid ((pv bl k).pc.toArray.all (·.oneCell') = true) := Lib.hid (by simp [V3.pc, PC, B, Value.oneCell'])
      have HVL : Hid ((pv bl k).pc.toArray.size = 34) := Lib.hid (by rw [List.size_toArray, V3.pc, PC_length, hpv.len])
      clear hlt hk hpv
      cases hri : tkR (part bl k) with
      | false =>
        have HTV : Hid (tkV (part bl k) = .tuple #[.agg ZERO, .int .i64 15]) := Lib.hid (by rw [tkV, hri]; rfl)
        rw [HTV.out] at HTK
        have HRF : Hid (partsOK bl = false) := Lib.hid (by rw [partsOK, partsR_le (k := k + 1) (by rw [partsR, HNR.out, hri]; rfl) 3 (by have := HLT.out; omega)]; rfl)
        clear hri
        go_wp2_with (first | (go_at_call 21; (with_reducible refine (HTK.out _ HXK.out).mono ?_); rintro e w1 ⟨rfl, hf1⟩; have HR1 := Lib.hid (hf1.keep HRK.out (fun h => h)); have HF1 := Lib.hid (HFK.out.then0 hf1); have HJ1 : Hid (Bk (w1.alloc (.cells ZERO 26)) w1.heap.size ZERO 26) := Lib.hid (Bk.new _ _); clear hf1) | (refine wpList_store_row rfl 26 _ _ rfl w1.heap.size ZERO rfl rfl 26 ZERO HJ1.out info_p rfl ZERO_one ?_; change wpList _ _ _ _ _ ((w1.alloc (.cells ZERO 26)).setRow w1.heap.size ZERO); have HF2 : Hid (Fr0 w1 ((w1.alloc (.cells ZERO 26)).setRow w1.heap.size ZERO)) := Lib.hid (ArrKit.Fr.row (Fr.alloc (Fr.refl _ _) _) _ _ (.inl (Nat.le_refl _))); generalize (w1.alloc (.cells ZERO 26)).setRow w1.heap.size ZERO = w2 at *; have HR2 := Lib.hid (HF2.out.keep HR1.out (fun h => h)); have HFF2 := Lib.hid (HF1.out.then0 HF2.out)) | (refine PtrAsk.build_eq rfl 46 _ rfl ZERO3 (by kernel_rfl) ?_) | (refine wpList_store_row rfl 46 _ _ rfl R ZERO3 rfl rfl 46 ZERO3 HR2.out info3 rfl ZERO3_one ?_))
        refine fin_ct R 46 ZERO3 (.int .i64 15) (by rfl) (by rfl) (by rfl) (by rfl) Tryd.underlying46 (by rfl) info3 (ArrKit.Bk.row HR2.out _) ?_
        exact ⟨by rw [HVF.out HRF.out], ArrKit.Fr.row HFF2.out _ _ (.inl hwR)⟩
      | true =>
        have HTV : Hid (tkV (part bl k) = .tuple #[.agg (pv bl k).pc.toArray, .int .i64 0]) := Lib.hid (by rw [tkV, hri]; rfl)
        rw [HTV.out] at HTK
        have HNK : Hid (partsR bl (k + 1) = true) := Lib.hid (by rw [partsR, HNR.out, hri]; rfl)
        clear hri
        go_wp2_with (first | (go_at_call 21; (with_reducible refine (HTK.out _ HXK.out).mono ?_); rintro e w1 ⟨rfl, hf1⟩; have HFW1 := Lib.hid hf1; have HF1 := Lib.hid (HFK.out.then0 hf1); have HJ1 : Hid (Bk (w1.alloc (.cells ZERO 26)) w1.heap.size ZERO 26) := Lib.hid (Bk.new _ _); clear hf1) | (refine wpList_store_row rfl 26 _ _ rfl w1.heap.size (pv bl k).pc.toArray rfl rfl 26 ZERO HJ1.out HIV.out HZV.out HVO.out ?_; change wpList _ _ _ _ _ ((w1.alloc (.cells ZERO 26)).setRow w1.heap.size (pv bl k).pc.toArray); have HJ2 : Hid (Bk ((w1.alloc (.cells ZERO 26)).setRow w1.heap.size (pv bl k).pc.toArray) w1.heap.size (pv bl k).pc.toArray 26) := Lib.hid (ArrKit.Bk.row HJ1.out _); have HF2 : Hid (Fr0 wr ((w1.alloc (.cells ZERO 26)).setRow w1.heap.size (pv bl k).pc.toArray)) := Lib.hid (HFW1.out.then0 (ArrKit.Fr.row (Fr.alloc (Fr.refl _ _) _) _ _ (.inl (Nat.le_refl _)))); generalize (w1.alloc (.cells ZERO 26)).setRow w1.heap.size (pv bl k).pc.toArray = w2 at *; have HG2 := Lib.hid (HF2.out.keep HGK.out (fun h => h)); have HTH : Hid (w2.there G (k * 34) (pv bl k).pc.toArray.size) := Lib.hid (fun j hj => ⟨by rw [HVL.out] at hj; rw [Bk.cell HG2.out, Array.getElem?_eq_getElem (by rw [lay_size, ZERO3_size]; have := HLT.out; omega)]; rfl, Bk.free HG2.out _⟩)) | (refine wpList_load_row rfl 26 _ rfl w1.heap.size rfl 26 (pv bl k).pc.toArray (0, 0) _ HJ2.out Tryd.underlying26 rfl HIV.out ?_) | (refine wpList_store_mid rfl 26 _ _ rfl G (k * 34) (pv bl k).pc.toArray rfl rfl HTH.out HIV.out HVO.out ?_; change wpList _ _ _ _ _ (w2.setCells G (k * 34) (pv bl k).pc.toArray.toList)))
        refine ⟨⟨k + 1, by have := HLT.out; omega, by go_num, HNK.out, ?_, (sets_fr _ _ _ (Fr.refl (fun i => i = G) w2)).keep (HF2.out.keep HRK.out (fun h => h)) (Ne.symm hGR), (sets_fr _ _ _ (Fr.refl (fun i => i = G) w2)).keep (HF2.out.keep HXK.out (fun h => h)) (Ne.symm hGX), (HFK.out.then0 HF2.out).then (sets_fr _ _ _ (Fr.refl (fun i => i = G) w2)) (fun i hi e => by omega)⟩, by have := HLT.out; simp [intOf]; omega⟩
        rw [partsL, PtrPut.WL.lay_append, partsL_length HBL.out k (by have := HLT.out; omega), show 0 + 34 * k = k * 34 by omega]
        exact sets_bk _ _ _ _ HG2.out
    · have c9 : decide ((k : Int) < 3) = false := decide_eq_false (by omega)
      obtain rfl : k = 3 := by omega
      have HGF : Hid (Bk wr G (partsL bl 3).toArray 46) := Lib.hid (by
        have := HGK.out
        rw [lay_parts HBL.out] at this
        exact this)
      have HL3 := partsL_length HBL.out 3 (Nat.le_refl _)
      have HI3 : Hid ((Tryd.prog.info? 46).map (·.size) = some (partsL bl 3).toArray.size) := Lib.hid (by rw [info3, List.size_toArray, HL3])
      have HZ3 : Hid (ZERO3.size = (partsL bl 3).toArray.size) := Lib.hid (ZERO3_size.trans (by rw [List.size_toArray, HL3]))
      have HO3 : Hid ((partsL bl 3).toArray.all (·.oneCell') = true) := Lib.hid (by simp [partsL, V3.pc, PC, B, Value.oneCell'])
      have HZC : Hid (∀ W : World, Bk W w.heap.size X 22 → Calls Tryd.prog 33 #[.slice (some ⟨w.heap.size, 120, none⟩) 8 8] W fun e w' => e = .returned (.bool (allZ (bl.drop 120))) ∧ W = w') := Lib.hid (fun W h => by
        have hr := (HRD.out W h).sub 120 8
        rw [Nat.zero_add, List.take_of_length_le (by rw [List.length_drop, HBL.out]; omega)] at hr
        exact zero_calls (some ⟨w.heap.size, 120, none⟩) 8 8 (bl.drop 120) W (by rw [List.length_drop, HBL.out]) hr (by omega) (by omega) (by omega))
      clear hlt hk HGK HL3
      cases hza : allZ (bl.drop 120) with
      | false =>
        have HRF : Hid (partsOK bl = false) := Lib.hid (by rw [partsOK, hza, Bool.and_false])
        rw [hza] at HZC
        clear hza
        go_wp2_with (first | (go_at_call 33; (with_reducible refine (HZC.out _ HXK.out).mono ?_); rintro e w1 ⟨rfl, rfl⟩) | (refine PtrAsk.build_eq rfl 46 _ rfl ZERO3 (by kernel_rfl) ?_) | (refine wpList_store_row rfl 46 _ _ rfl R ZERO3 rfl rfl 46 ZERO3 HRK.out info3 rfl ZERO3_one ?_))
        refine fin_ct R 46 ZERO3 (.int .i64 15) (by rfl) (by rfl) (by rfl) (by rfl) Tryd.underlying46 (by rfl) info3 (ArrKit.Bk.row HRK.out _) ?_
        exact ⟨by rw [HVF.out HRF.out], ArrKit.Fr.row HFK.out _ _ (.inl hwR)⟩
      | true =>
        have HRT : Hid (partsOK bl = true) := Lib.hid (by rw [partsOK, hza, HNR.out]; rfl)
        rw [hza] at HZC
        clear hza
        go_wp2_with (first | (go_at_call 33; (with_reducible refine (HZC.out _ HXK.out).mono ?_); rintro e w1 ⟨rfl, rfl⟩) | (refine wpList_load_row rfl 46 _ rfl G rfl 46 (partsL bl 3).toArray (0, 0) _ HGF.out Tryd.underlying46 rfl HI3.out ?_) | (refine wpList_store_row rfl 46 _ _ rfl R (partsL bl 3).toArray rfl rfl 46 ZERO3 HRK.out HI3.out HZ3.out HO3.out ?_))
        refine fin_ct R 46 (partsL bl 3).toArray (.int .i64 0) (by rfl) (by rfl) (by rfl) (by rfl) Tryd.underlying46 (by rfl) HI3.out (ArrKit.Bk.row HRK.out _) ?_
        exact ⟨by rw [HVT.out HRT.out], ArrKit.Fr.row HFK.out _ _ (.inl hwR)⟩

end Go.Proofs.YtjkaenhopkigdaaDoor.PtrParts
