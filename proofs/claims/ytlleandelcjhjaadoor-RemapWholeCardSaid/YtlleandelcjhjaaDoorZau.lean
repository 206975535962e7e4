/- The theorems that the claim uses, text behind text (part 21). -/
import Derived.Test.YtlleandelcjhjaaDoorZak
import Derived.Test.YtlleandelcjhjaaDoorZat
set_option maxRecDepth 100000
set_option linter.unusedVariables false
set_option linter.unusedSimpArgs false
namespace Go.Proofs.YtlleandelcjhjaaDoor.RmTake
open Go Go.RowKit Go.Proofs.YtlleandelcjhjaaDoor.K Go.Proofs.YtlleandelcjhjaaDoor.EqKit Go.Proofs.YtlleandelcjhjaaDoor.ArrKit Go.Proofs.YtlleandelcjhjaaDoor.HeldKit Go.Proofs.YtlleandelcjhjaaDoor.GKit Go.Proofs.YtlleandelcjhjaaDoor.GRow Go.Proofs.YtlleandelcjhjaaDoor.DiskKit Go.Proofs.YtlleandelcjhjaaDoor.RmKit Go.Proofs.YtlleandelcjhjaaDoor.MapKit Go.Proofs.YtlleandelcjhjaaDoor.DiskRRead Go.Proofs.YtlleandelcjhjaaDoor.WordPut Go.Proofs.YtlleandelcjhjaaDoor.WordTake Go.Proofs.YtlleandelcjhjaaDoor.RmRight Go.Proofs.YtlleandelcjhjaaDoor.RmRRight Go.Proofs.YtlleandelcjhjaaDoor.RmTab Go.Proofs.YtlleandelcjhjaaDoor.RmPut Go.Proofs.YtlleandelcjhjaaDoor.RmSame Go.Proofs.YtlleandelcjhjaaDoor.RowG
def takG (l : List UInt8) : Nat := num ((l.drop 1).take 8)
def takF (l : List UInt8) (i : Nat) : Nat := num ((l.drop (10 + 4 * i)).take 2)
def takT (l : List UInt8) (i : Nat) : Nat := num ((l.drop (12 + 4 * i)).take 2)
def takK (l : List UInt8) : Nat := (l.getD 9 0).toNat
def takP (l : List UInt8) : List (Int × Int) := (List.range (takK l)).map fun i => ((takF l i : Int), (takT l i : Int))
def takM (l : List UInt8) : Rm := ⟨(takG l : Int), takP l⟩
def takB (l : List UInt8) (s : Int) : Bool := decide (takG l < 2 ^ 63) && decide (takK l ≤ 20) && tabB (takM l) s && decide (tabL (takM l) = l)
/-- the table of a block: what Take answers -/
def takX (l : List UInt8) (s : Int) : Rm := if takB l s = true then takM l else ⟨0, []⟩
def takE (l : List UInt8) (s : Int) : Int := if takB l s = true then 0 else 15
theorem takP_len (l : List UInt8) : (takP l).length = takK l := by simp [takP]
theorem takP_get (l : List UInt8) {i : Nat} (h : i < (takP l).length) : (takP l)[i] = ((takF l i : Int), (takT l i : Int)) := by simp [takP]
theorem num2 (l : List UInt8) (p : Nat) : num ((l.drop p).take 2) < 65536 := by
  have h := num_lt ((l.drop p).take 2)
  have h2 : ((l.drop p).take 2).length ≤ 2 := by rw [List.length_take]; omega
  exact Nat.lt_of_lt_of_le h (Nat.le_trans (Nat.pow_le_pow_right (by decide) h2) (by decide))
theorem takM_ok {l : List UInt8} (h : takG l < 2 ^ 63) : (takM l).ok := by
  refine ⟨?_, fun x hx => ?_⟩
  · show (Lit.int .i64 (takG l : Int)).wf = true
    simp [Lit.wf, IntKind.min, IntKind.max, IntKind.signed, IntKind.bits]; omega
  · obtain ⟨i, -, rfl⟩ := List.mem_map.1 hx
    have h1 : takF l i < 65536 := num2 l _
    have h2 : takT l i < 65536 := num2 l _
    simp [Lit.wf, IntKind.min, IntKind.max, IntKind.signed, IntKind.bits]; omega
theorem takX_ok (l : List UInt8) (s : Int) : (takX l s).ok := by
  unfold takX
  split
  · rename_i h
    unfold takB at h
    simp only [Bool.and_eq_true, decide_eq_true_eq] at h
    exact takM_ok h.1.1.1
  · exact ⟨by decide, fun x hx => by cases hx⟩
theorem built_rg (x : Int) : Tryd.prog.built 24 [(0, .int .i64 x)] = some (RC x (.slice none 0 0)) := by kernel_rfl
theorem built_rz : Tryd.prog.built 24 [] = some RZ := by kernel_rfl
theorem built_pr (x y : Int) : Tryd.prog.built 69 [(0, .int .i64 x), (1, .int .i64 y)] = some (PR (x, y)).toArray := by kernel_rfl
theorem rv_none (W : World) : RV W (⟨0, []⟩ : Rm) none 0 := ⟨RdG.nil _ _, Nat.le_refl _, by omega⟩
theorem rv_row {W : World} {base : Nat} {a : Option Addr} {n cap : Nat} {m : Rm} (h : Row PR 2 69 W base (.slice a n cap) m.ps) : RV W m a cap := by
  obtain ⟨a', cap', e, h1, h2, h3, -⟩ := h.form
  cases e
  exact ⟨h3, h1, h2⟩
theorem take_succ_P (l : List UInt8) {j : Nat} (h : j < takK l) : (takP l).take (j + 1) = (takP l).take j ++ [((takF l j : Int), (takT l j : Int))] := by
  have hl : j < (takP l).length := by rw [takP_len]; exact h
  rw [List.take_succ_eq_append_getElem hl, takP_get]

set_option maxHeartbeats 2000000 in
set_option maxRecDepth 100000 in
theorem take_form (l : List UInt8) (s : Int) (w : World) (hl : l.length = 128) (hg : ¬ takG l < 2 ^ 63) : Calls Tryd.prog 27 #[.agg (l.map B).toArray, .int .i64 s] w fun e w' => ∃ a c, e = .returned (.tuple #[.agg (rval (takX l s) a c), .int .i64 (takE l s)]) ∧ RV w' (takX l s) a c ∧ Fr0 w w' := by
  have hno : takB l s = false := by unfold takB; rw [decide_eq_false hg]; simp
  have hx : takX l s = ⟨0, []⟩ := by unfold takX; rw [if_neg (by simp [hno])]
  have he : takE l s = 15 := by unfold takE; rw [if_neg (by simp [hno])]
  rw [hx, he]
  have hzr := zero_r
  have hzb := zero_bl
  have hs1 : (w.alloc (.cells (l.map B).toArray 27)).heap.size = w.heap.size + 1 := by simp
  have HX0 : Hid (Bk ((w.alloc (.cells (l.map B).toArray 27)).alloc (.cells RZ 24)) w.heap.size (l.map B).toArray 27) := Lib.hid (Bk.alloc (Bk.new w _) _)
  have HR0 : Hid (Bk ((w.alloc (.cells (l.map B).toArray 27)).alloc (.cells RZ 24)) (w.heap.size + 1) RZ 24) := Lib.hid (by have := Bk.new (w.alloc (.cells (l.map B).toArray 27)) (.cells RZ 24); rwa [hs1] at this)
  have HF0 : Hid (Fr0 w ((w.alloc (.cells (l.map B).toArray 27)).alloc (.cells RZ 24))) := Lib.hid (Fr.alloc (Fr.alloc (Fr.refl _ _) _) _)
  have HRD : Hid (∀ W, Bk W w.heap.size (l.map B).toArray 27 → Rd W (some ⟨w.heap.size, 0, none⟩) l) := Lib.hid (fun W h => Rd.block h (fun i hi => by
    rw [Nat.zero_add, List.getElem?_toArray, List.getElem?_map, List.getElem?_eq_getElem (by omega)]
    simp))
  have HIN : Hid (∀ g v, (Tryd.prog.info? 24).map (·.size) = some (RC g v).size) := Lib.hid (fun _ _ => info_r _ _)
  clear hs1
  have HTK : Hid (∀ W, Bk W w.heap.size (l.map B).toArray 27 → Calls Tryd.prog 55 #[.slice (some ⟨w.heap.size, 0, none⟩) 128 128, .int .i64 1, .int .i64 8] W fun e w' => e = .returned (.tuple #[.int .i64 0, .int .i64 15]) ∧ W = w') := Lib.hid (fun W h => WordTake.take_form w.heap.size 0 128 128 1 8 l W hl (HRD.out W h) (by omega) (by omega) (by omega) (by omega) (by omega) (by omega) (by have : takG l = num ((l.drop 1).take 8) := rfl; omega))
  go_enter Tryd.func27, Tryd.ntmps27
  go_wp2_with (first | (go_at_call 55; (with_reducible refine (HTK.out _ HX0.out).mono ?_); rintro e w1 ⟨rfl, rfl⟩) | ((with_reducible show wpList _ _ _ ({ dst := _, op := Op.build 24 _, type := _, pos := _, after := _, guard := _ } :: _) _ _); refine build_ev rfl 24 _ rfl [] (by simp) RZ built_rz ?_) | ((with_reducible show wpList _ _ _ ({ dst := _, op := Op.store 24 _ _, type := _, pos := _, after := _, guard := _ } :: _) _ _); refine wpList_store_row rfl 24 _ _ rfl (w.heap.size + 1) RZ rfl rfl 24 RZ HR0.out (HIN.out _ _) rfl (RC_all _ _ _ _) ?_))
  refine fin_ct (w.heap.size + 1) 24 RZ (.int .i64 15) (by rfl) (by rfl) (by rfl) (by rfl) Tryd.underlying24 (by rfl) (HIN.out _ _) (ArrKit.Bk.row HR0.out _) ?_
  exact ⟨none, 0, rfl, rv_none _, ArrKit.Fr.row HF0.out _ _ (.inl (by omega))⟩

set_option maxHeartbeats 2000000 in
set_option maxRecDepth 100000 in
theorem take_many (l : List UInt8) (s : Int) (w : World) (hl : l.length = 128) (hg : takG l < 2 ^ 63) (hk : ¬ takK l ≤ 20) : Calls Tryd.prog 27 #[.agg (l.map B).toArray, .int .i64 s] w fun e w' => ∃ a c, e = .returned (.tuple #[.agg (rval (takX l s) a c), .int .i64 (takE l s)]) ∧ RV w' (takX l s) a c ∧ Fr0 w w' := by
  have hno : takB l s = false := by unfold takB; rw [decide_eq_false hk]; simp
  have hx : takX l s = ⟨0, []⟩ := by unfold takX; rw [if_neg (by simp [hno])]
  have he : takE l s = 15 := by unfold takE; rw [if_neg (by simp [hno])]
  rw [hx, he]
  have hzr := zero_r
  have hzb := zero_bl
  have hs1 : (w.alloc (.cells (l.map B).toArray 27)).heap.size = w.heap.size + 1 := by simp
  have HX0 : Hid (Bk ((w.alloc (.cells (l.map B).toArray 27)).alloc (.cells RZ 24)) w.heap.size (l.map B).toArray 27) := Lib.hid (Bk.alloc (Bk.new w _) _)
  have HR0 : Hid (Bk ((w.alloc (.cells (l.map B).toArray 27)).alloc (.cells RZ 24)) (w.heap.size + 1) RZ 24) := Lib.hid (by have := Bk.new (w.alloc (.cells (l.map B).toArray 27)) (.cells RZ 24); rwa [hs1] at this)
  have HF0 : Hid (Fr0 w ((w.alloc (.cells (l.map B).toArray 27)).alloc (.cells RZ 24))) := Lib.hid (Fr.alloc (Fr.alloc (Fr.refl _ _) _) _)
  have HRD : Hid (∀ W, Bk W w.heap.size (l.map B).toArray 27 → Rd W (some ⟨w.heap.size, 0, none⟩) l) := Lib.hid (fun W h => Rd.block h (fun i hi => by
    rw [Nat.zero_add, List.getElem?_toArray, List.getElem?_map, List.getElem?_eq_getElem (by omega)]
    simp))
  have HIN : Hid (∀ g v, (Tryd.prog.info? 24).map (·.size) = some (RC g v).size) := Lib.hid (fun _ _ => info_r _ _)
  clear hs1
  have HTK : Hid (∀ W, Bk W w.heap.size (l.map B).toArray 27 → Calls Tryd.prog 55 #[.slice (some ⟨w.heap.size, 0, none⟩) 128 128, .int .i64 1, .int .i64 8] W fun e w' => e = .returned (.tuple #[.int .i64 (takG l : Int), .int .i64 0]) ∧ W = w') := Lib.hid (fun W h => WordTake.take_ok w.heap.size 0 128 128 1 8 l W hl (HRD.out W h) (by omega) (by omega) (by omega) (by omega) (by omega) (by omega) hg)
  have HC9 : Hid (∀ W, Bk W w.heap.size (l.map B).toArray 27 → W.cell? ⟨w.heap.size, 9, none⟩ = some (.int .u8 (takK l : Int))) := Lib.hid (fun W h => (Bk.cell h 9).trans (by
    rw [List.getElem?_toArray, List.getElem?_map, List.getElem?_eq_getElem (by omega)]
    have : l.getD 9 0 = l[9] := by rw [List.getD_eq_getElem?_getD, List.getElem?_eq_getElem (by omega)]; rfl
    show some (B l[9]) = _
    rw [B_def, takK, this]))
  have c9 := HC9.out _ HX0.out
  have hk2 : (20 : Int) < (takK l : Int) := by omega
  generalize (takK l : Int) = kk at *
  go_enter Tryd.func27, Tryd.ntmps27
  go_wp2_with (first | (go_at_call 55; (with_reducible refine (HTK.out _ HX0.out).mono ?_); rintro e w1 ⟨rfl, rfl⟩) | ((with_reducible show wpList _ _ _ ({ dst := _, op := Op.build 24 _, type := _, pos := _, after := _, guard := _ } :: _) _ _); refine build_ev rfl 24 _ rfl [] (by simp) RZ built_rz ?_) | ((with_reducible show wpList _ _ _ ({ dst := _, op := Op.store 24 _ _, type := _, pos := _, after := _, guard := _ } :: _) _ _); refine wpList_store_row rfl 24 _ _ rfl (w.heap.size + 1) RZ rfl rfl 24 RZ HR0.out (HIN.out _ _) rfl (RC_all _ _ _ _) ?_))
  refine fin_ct (w.heap.size + 1) 24 RZ (.int .i64 15) (by rfl) (by rfl) (by rfl) (by rfl) Tryd.underlying24 (by rfl) (HIN.out _ _) (ArrKit.Bk.row HR0.out _) ?_
  exact ⟨none, 0, rfl, rv_none _, ArrKit.Fr.row HF0.out _ _ (.inl (by omega))⟩

set_option maxHeartbeats 2000000 in
set_option maxRecDepth 100000 in
theorem take_main (l : List UInt8) (s : Int) (w : World) (hl : l.length = 128) (hs : (Lit.int .i64 s).wf = true) (hsh : Sh w) (hg : takG l < 2 ^ 63) (hk : takK l ≤ 20) : Calls Tryd.prog 27 #[.agg (l.map B).toArray, .int .i64 s] w fun e w' => ∃ a c, e = .returned (.tuple #[.agg (rval (takX l s) a c), .int .i64 (takE l s)]) ∧ RV w' (takX l s) a c ∧ Fr0 w w' := by
  have HSH := Lib.hid hsh
  have HWS := Lib.hid hs
  have hzr := zero_r
  have hzb := zero_bl
  have hs1 : (w.alloc (.cells (l.map B).toArray 27)).heap.size = w.heap.size + 1 := by simp
  have HX0 : Hid (Bk ((w.alloc (.cells (l.map B).toArray 27)).alloc (.cells RZ 24)) w.heap.size (l.map B).toArray 27) := Lib.hid (Bk.alloc (Bk.new w _) _)
  have HR0 : Hid (Bk ((w.alloc (.cells (l.map B).toArray 27)).alloc (.cells RZ 24)) (w.heap.size + 1) RZ 24) := Lib.hid (by have := Bk.new (w.alloc (.cells (l.map B).toArray 27)) (.cells RZ 24); rwa [hs1] at this)
  have HF0 : Hid (Fr0 w ((w.alloc (.cells (l.map B).toArray 27)).alloc (.cells RZ 24))) := Lib.hid (Fr.alloc (Fr.alloc (Fr.refl _ _) _) _)
  have HRD : Hid (∀ W, Bk W w.heap.size (l.map B).toArray 27 → Rd W (some ⟨w.heap.size, 0, none⟩) l) := Lib.hid (fun W h => Rd.block h (fun i hi => by
    rw [Nat.zero_add, List.getElem?_toArray, List.getElem?_map, List.getElem?_eq_getElem (by omega)]
    simp))
  have HIN : Hid (∀ g v, (Tryd.prog.info? 24).map (·.size) = some (RC g v).size) := Lib.hid (fun _ _ => info_r _ _)
  clear hs1
  have HTK : Hid (∀ W, Bk W w.heap.size (l.map B).toArray 27 → Calls Tryd.prog 55 #[.slice (some ⟨w.heap.size, 0, none⟩) 128 128, .int .i64 1, .int .i64 8] W fun e w' => e = .returned (.tuple #[.int .i64 (takG l : Int), .int .i64 0]) ∧ W = w') := Lib.hid (fun W h => WordTake.take_ok w.heap.size 0 128 128 1 8 l W hl (HRD.out W h) (by omega) (by omega) (by omega) (by omega) (by omega) (by omega) hg)
  have HC9 : Hid (∀ W, Bk W w.heap.size (l.map B).toArray 27 → W.cell? ⟨w.heap.size, 9, none⟩ = some (.int .u8 (takK l : Int))) := Lib.hid (fun W h => (Bk.cell h 9).trans (by
    rw [List.getElem?_toArray, List.getElem?_map, List.getElem?_eq_getElem (by omega)]
    have : l.getD 9 0 = l[9] := by rw [List.getD_eq_getElem?_getD, List.getElem?_eq_getElem (by omega)]; rfl
    show some (B l[9]) = _
    rw [B_def, takK, this]))
  have HTT : Hid (∀ (W : World) (p : Nat), p + 2 ≤ 128 → Bk W w.heap.size (l.map B).toArray 27 → Calls Tryd.prog 55 #[.slice (some ⟨w.heap.size, 0, none⟩) 128 128, .int .i64 (p : Int), .int .i64 2] W fun e w' => e = .returned (.tuple #[.int .i64 (num ((l.drop p).take 2) : Int), .int .i64 0]) ∧ W = w') := Lib.hid (fun W p hp h => WordTake.take_ok w.heap.size 0 128 128 p 2 l W hl (HRD.out W h) (by omega) (by omega) (by omega) (by omega) (by omega) (by omega) (Nat.lt_trans (num2 l p) (by decide)))
  obtain ⟨i1, hy0, hz0, hz1, hz2⟩ := info_parts infoPr
  have HJ : Hid (Tryd.prog.info? 69 = some i1 ∧ i1.zero = some (.agg PZ2) ∧ i1.size = 2 ∧ i1.bytes = 16) := Lib.hid ⟨hy0, hz0, hz1, hz2⟩
  have hs2 : ((w.alloc (.cells (l.map B).toArray 27)).alloc (.cells RZ 24)).heap.size = w.heap.size + 1 + 1 := by simp
  have HTZ : Hid (Bk (((w.alloc (.cells (l.map B).toArray 27)).alloc (.cells RZ 24)).alloc (.cells RZ 24)) (w.heap.size + 1 + 1) RZ 24) := Lib.hid (by have := Bk.new ((w.alloc (.cells (l.map B).toArray 27)).alloc (.cells RZ 24)) (.cells RZ 24); rwa [hs2] at this)
  have HX3 : Hid (Bk (((w.alloc (.cells (l.map B).toArray 27)).alloc (.cells RZ 24)).alloc (.cells RZ 24)) w.heap.size (l.map B).toArray 27) := Lib.hid (Bk.alloc HX0.out _)
  have HR3 : Hid (Bk (((w.alloc (.cells (l.map B).toArray 27)).alloc (.cells RZ 24)).alloc (.cells RZ 24)) (w.heap.size + 1) RZ 24) := Lib.hid (Bk.alloc HR0.out _)
  have HF3 : Hid (Fr0 w (((w.alloc (.cells (l.map B).toArray 27)).alloc (.cells RZ 24)).alloc (.cells RZ 24))) := Lib.hid (Fr.alloc HF0.out _)
  have HMO := Lib.hid (takM_ok hg)
  have c9 := HC9.out _ HX0.out
  have hk2 : ¬ ((20 : Int) < (takK l : Int)) := by omega
  have hGK : takG l = takG l := rfl
  generalize hgen : (takG l : Int) = gen at *
  generalize hkk : takK l = kk at *
  have HGE : Hid (((takM l).gen = gen) ∧ (takP l).length = kk) := Lib.hid ⟨hgen, by rw [takP_len, hkk]⟩
  have HSU : Hid (∀ j, j < kk → (takP l).take (j + 1) = (takP l).take j ++ [((takF l j : Int), (takT l j : Int))]) := Lib.hid (fun j h => take_succ_P l (by omega))
  have HLL := Lib.hid hl
  have HTB : Hid (takB l s = (tabB (takM l) s && decide (tabL (takM l) = l))) := Lib.hid (by unfold takB; rw [decide_eq_true hg, hkk, decide_eq_true hk]; simp)
  have HKK := Lib.hid hkk
  clear hy0 hz0 hz1 hz2 hs2 hgen hg hl hsh hs hGK hkk
  go_enter Tryd.func27, Tryd.ntmps27
  go_wp2_with (first | (go_at_call 55; (with_reducible refine (HTK.out _ HX0.out).mono ?_); rintro e w1 ⟨rfl, rfl⟩) | ((with_reducible show wpList _ _ _ ({ dst := _, op := Op.build 24 _, type := _, pos := _, after := _, guard := _ } :: _) _ _); refine build_ev rfl 24 _ rfl [(0, .int .i64 gen)] (by simp [Act.eval, Act.put]) (RC gen (.slice none 0 0)) (built_rg _) ?_) | ((with_reducible show wpList _ _ _ ({ dst := _, op := Op.store 24 _ _, type := _, pos := _, after := _, guard := _ } :: _) _ _); refine wpList_store_row rfl 24 _ _ rfl (w.heap.size + 1 + 1) (RC gen (.slice none 0 0)) rfl rfl 24 RZ HTZ.out (HIN.out _ _) rfl (RC_all _ _ _ _) ?_; have c9 := HC9.out _ (show Bk ((((w.alloc (.cells (l.map B).toArray 27)).alloc (.cells RZ 24)).alloc (.cells RZ 24)).setRow (w.heap.size + 1 + 1) (RC gen (.slice none 0 0))) w.heap.size (l.map B).toArray 27 from ArrKit.Bk.rowOther HX3.out _ (by omega))))
  have HX4 : Hid (Bk ((((w.alloc (.cells (l.map B).toArray 27)).alloc (.cells RZ 24)).alloc (.cells RZ 24)).setRow (w.heap.size + 1 + 1) (RC gen (.slice none 0 0))) w.heap.size (l.map B).toArray 27) := Lib.hid (ArrKit.Bk.rowOther HX3.out _ (by omega))
  have HR4 : Hid (Bk ((((w.alloc (.cells (l.map B).toArray 27)).alloc (.cells RZ 24)).alloc (.cells RZ 24)).setRow (w.heap.size + 1 + 1) (RC gen (.slice none 0 0))) (w.heap.size + 1) RZ 24) := Lib.hid (ArrKit.Bk.rowOther HR3.out _ (by omega))
  have HT4 : Hid (Bk ((((w.alloc (.cells (l.map B).toArray 27)).alloc (.cells RZ 24)).alloc (.cells RZ 24)).setRow (w.heap.size + 1 + 1) (RC gen (.slice none 0 0))) (w.heap.size + 1 + 1) (RC gen (.slice none 0 0)) 24) := Lib.hid (ArrKit.Bk.row HTZ.out _)
  have HF4 : Hid (Fr0 w ((((w.alloc (.cells (l.map B).toArray 27)).alloc (.cells RZ 24)).alloc (.cells RZ 24)).setRow (w.heap.size + 1 + 1) (RC gen (.slice none 0 0)))) := Lib.hid (ArrKit.Fr.row HF3.out _ _ (.inl (by omega)))
  clear HX3 HR3 HTZ HF3 HX0 HR0 HF0 c9
  generalize ((((w.alloc (.cells (l.map B).toArray 27)).alloc (.cells RZ 24)).alloc (.cells RZ 24)).setRow (w.heap.size + 1 + 1) (RC gen (.slice none 0 0))) = wb at *
  go_loopw [34] (fun jj W => ∃ (j : Nat) (v : Value), j ≤ kk ∧ jj = .int .i64 j ∧ Bk W w.heap.size (l.map B).toArray 27 ∧ Bk W (w.heap.size + 1) RZ 24 ∧ Bk W (w.heap.size + 1 + 1) (RC gen v) 24 ∧ Row PR 2 69 W ((w.heap.size + 1 + 1) + 1) v ((takP l).take j) ∧ Fr0 w W) (fun jj _ => kk - (intOf jj).toNat)
  case atStart => exact ⟨0, (.slice none 0 0), Nat.zero_le _, rfl, HX4.out, HR4.out, HT4.out, by rw [List.take_zero]; exact Row.nil _ _, HF4.out⟩
  case round =>
    obtain ⟨j, v, hj, rfl, hx, hr, ht, hrow, hF⟩ := hrel
    obtain ⟨a, cap, hv, hcap, hcm, hrd, -, -⟩ := hrow.form
    have hnl : ((takP l).take j).length = j := by rw [List.length_take, HGE.out.2]; omega
    rw [hnl] at hv hcap
    subst hv
    have HX := Lib.hid hx
    have HR := Lib.hid hr
    have HT := Lib.hid ht
    have HF := Lib.hid hF
    have HROW := Lib.hid hrow
    have HLT : Hid (((takP l).take j).length + 1 ≤ 1000 ∧ (((takP l).take j).length + 1) * 16 ≤ 100000) := Lib.hid (by rw [hnl]; omega)
    have c9 := HC9.out _ hx
    have c1 : wr.cell? ⟨(w.heap.size + 1 + 1), 1, none⟩ = some (.slice a j cap) := Bk.cell ht 1
    by_cases hjl : j < kk
    · have hw4 : IntKind.i64.wrap (4 * (j : Int)) = 4 * (j : Int) := wr_i _ (by omega) (by omega)
      have hw10 : IntKind.i64.wrap (10 + 4 * (j : Int)) = 10 + 4 * (j : Int) := wr_i _ (by omega) (by omega)
      have hw12 : IntKind.i64.wrap (10 + 4 * (j : Int) + 2) = 10 + 4 * (j : Int) + 2 := wr_i _ (by omega) (by omega)
      have HU1 : Hid (∀ W, Bk W w.heap.size (l.map B).toArray 27 → Calls Tryd.prog 55 #[.slice (some ⟨w.heap.size, 0, none⟩) 128 128, .int .i64 (10 + 4 * (j : Int)), .int .i64 2] W fun e w' => e = .returned (.tuple #[.int .i64 (takF l j : Int), .int .i64 0]) ∧ W = w') := Lib.hid (fun W h => by have := HTT.out W (10 + 4 * j) (by omega) h; rwa [show ((10 + 4 * j : Nat) : Int) = 10 + 4 * (j : Int) by omega] at this)
      have HU2 : Hid (∀ W, Bk W w.heap.size (l.map B).toArray 27 → Calls Tryd.prog 55 #[.slice (some ⟨w.heap.size, 0, none⟩) 128 128, .int .i64 (10 + 4 * (j : Int) + 2), .int .i64 2] W fun e w' => e = .returned (.tuple #[.int .i64 (takT l j : Int), .int .i64 0]) ∧ W = w') := Lib.hid (fun W h => by have := HTT.out W (12 + 4 * j) (by omega) h; rwa [show ((12 + 4 * j : Nat) : Int) = 10 + 4 * (j : Int) + 2 by omega] at this)
      have HSUJ := Lib.hid (HSU.out j hjl)
      have HJL := Lib.hid hjl
      generalize takF l j = ff at *
      generalize takT l j = tt at *
      clear hx hr ht hF hrow hrd hnl
      go_wp2_with (first | (go_at_call 55; (with_reducible refine (HU1.out _ HX.out).mono ?_); rintro e wq ⟨rfl, rfl⟩) | (go_at_call 55; (with_reducible refine (HU2.out _ HX.out).mono ?_); rintro e wq ⟨rfl, rfl⟩) | ((with_reducible show wpList _ _ _ ({ dst := _, op := Op.build 69 _, type := _, pos := _, after := _, guard := _ } :: _) _ _); refine build_ev rfl 69 _ rfl [(0, .int .i64 (ff : Int)), (1, .int .i64 (tt : Int))] (by simp [Act.eval, Act.put]) (PR ((ff : Int), (tt : Int))).toArray (built_pr _ _) ?_) | ((with_reducible show wpList _ _ _ ({ dst := _, op := Op.buildSlice 22 1 _, type := _, pos := _, after := _, guard := _ } :: _) _ _); refine wpList_plain rfl fun K hK => ?_; refine GApp.wp_buildSlice_one 22 _ rfl 69 i1 _ 2 Tryd.underlying22 HJ.out.1 HJ.out.2.1 HJ.out.2.2.1 (by decide) (by decide) (PR ((ff : Int), (tt : Int))).toArray rfl rfl ?_; refine hK _ _ ?_) | (at_builtin; refine wpList_plain rfl fun K hK => ?_; obtain ⟨v8, w8, hr8, ho8, hf8, hb8⟩ := Row.append1 (P := Tryd.prog) (f := PR) (k := 2) (e := 69) (wr.alloc (.cells (PR ((ff : Int), (tt : Int))).toArray 69)) 22 22 i1 _ 16 ((w.heap.size + 1 + 1) + 1) Tryd.underlying22 HJ.out.1 HJ.out.2.1 HJ.out.2.2.1 HJ.out.2.2.2 rfl (by decide) (.slice a j cap) _ (HROW.out.keep0 (Fr.alloc (Fr.refl _ _) _)) (by have := Bk.lt HT.out; simp; omega) (fun x _ => rfl) wr.heap.size 1 ((ff : Int), (tt : Int)) rfl (PR_one _) (Bk.new wr _) (by have := HLT.out; omega) (by have := HLT.out; omega); obtain ⟨a9, cap9, hv9, -⟩ := ho8.form; generalize List.length _ = n9 at hv9; subst hv9; refine GApp.wp_append_run _ _ 22 (by rfl) _ _ _ (by rfl) (by rfl) hr8 ?_; refine hK _ _ ?_; have HB8 : Hid (∀ i, (Value.slice a j cap).ownBlock = some i → (w.heap.size + 1 + 1) < i) := Lib.hid (fun i e => (HROW.out.blk i e).1); have HX8 := Lib.hid (hf8.keep (Bk.alloc HX.out _) (fun e => by have := HB8.out _ e; omega)); have HR8 := Lib.hid (hf8.keep (Bk.alloc HR.out _) (fun e => by have := HB8.out _ e; omega)); have HT8 := Lib.hid (hf8.keep (Bk.alloc HT.out _) (fun e => by have := HB8.out _ e; omega)); have HF8 : Hid (Fr0 w w8) := Lib.hid ((Fr.alloc HF.out _).then hf8 (fun i hi e => by have := HB8.out _ e; omega)); have HW8 := Lib.hid ho8; obtain ⟨vc, c81⟩ : ∃ v, w8.cell? ⟨(w.heap.size + 1 + 1), 1, none⟩ = some v := ⟨_, Bk.cell HT8.out 1⟩; have f81 := Bk.free HT8.out 1; clear hr8 ho8 hf8 hb8))
      
      
      go_roundw
      case rel => exact ⟨j + 1, _, by have := HJL.out; omega, by go_num, Bk.setOther HX8.out _ _ (by show w.heap.size ≠ (w.heap.size + 1 + 1); omega), Bk.setOther HR8.out _ _ (by show (w.heap.size + 1) ≠ (w.heap.size + 1 + 1); omega), Bk.set HT8.out 1 _, by rw [HSUJ.out]; exact HW8.out.keep (S := fun i => i = (w.heap.size + 1 + 1)) (Fr.set1 _ _ _ _) (fun g e => by have := HW8.out.blk g e; omega), Fr.set HF8.out _ _ (.inl (by show w.heap.size ≤ (w.heap.size + 1 + 1); omega))⟩
      case measure => have := HJL.out; simp [intOf]; omega
    · have hje : j = kk := by omega
      subst hje
      have hfull : (takP l).take j = takP l := List.take_of_length_le (by rw [HGE.out.2]; omega)
      rw [hfull] at hrow hrd hnl
      have HROW := Lib.hid hrow
      have HV : Hid (RV wr (takM l) a cap) := Lib.hid ⟨hrd, by show (takP l).length ≤ cap; omega, hcm⟩
      have hrv : RC gen (.slice a j cap) = rval (takM l) a cap := by show _ = RC (takM l).gen (.slice a (takP l).length cap); rw [HGE.out.1, HGE.out.2]
      have HEV : Hid (rval (takM l) a cap = RC gen (.slice a j cap)) := Lib.hid hrv.symm
      have HPU : Hid (Calls Tryd.prog 11 #[.agg (RC gen (.slice a j cap)), .int .i64 s] wr fun e w' => e = .returned (.tuple #[.agg ((tabX (takM l) s).map B).toArray, .int .i64 (tabE (takM l) s)]) ∧ Fr0 wr w') := Lib.hid (by rw [hrv]; exact RmPut.put_calls _ a cap s wr HMO.out HV.out HWS.out (HSH.out.keep0 HF.out))
      have hxl := tabX_len (takM l) s
      have HIL := Lib.hid (info_l hxl)
      have HSL := Lib.hid (size_l hxl)
      have HOL := Lib.hid (one_l (tabX (takM l) s))
      have HIB := Lib.hid (info_l HLL.out)
      clear hx hr ht hF hrow hrd hnl hfull hrv
      cases htb : tabB (takM l) s with
      | false =>
        have HTX : Hid (takX l s = ⟨0, []⟩ ∧ takE l s = 15) := Lib.hid (by unfold takX takE; rw [HTB.out, htb]; exact ⟨rfl, rfl⟩)
        have heE : tabE (takM l) s = 1 := by unfold tabE; rw [htb]; rfl
        rw [heE] at HPU
        clear heE htb
        generalize ((tabX (takM l) s).map B).toArray = LX at *
        go_wp2_with (first | ((with_reducible show wpList _ _ _ ({ dst := _, op := Op.load 24 _, type := _, pos := _, after := _, guard := _ } :: _) _ _); refine wpList_load_row_g (by rfl) 24 _ rfl (w.heap.size + 1 + 1) rfl 24 _ (0, 0) _ HT.out Tryd.underlying24 rfl (HIN.out _ _) ?_) | (go_at_call 11; (with_reducible refine (HPU.out).mono ?_); rintro e w9 ⟨rfl, hf9⟩; have HX9 := Lib.hid (hf9.keep HX.out (fun h => h)); have HR9 := Lib.hid (hf9.keep HR.out (fun h => h)); have HT9 := Lib.hid (hf9.keep HT.out (fun h => h)); have HF9 := Lib.hid (HF.out.then0 hf9); have HRW9 := Lib.hid (HROW.out.keep0 hf9); have HZ9 := Lib.hid (Bk.new w9 (.cells ZB 27)); clear hf9) | ((with_reducible show wpList _ _ _ ({ dst := _, op := Op.store 27 _ _, type := _, pos := _, after := _, guard := _ } :: _) _ _); refine wpList_store_row rfl 27 _ _ rfl w9.heap.size LX rfl rfl 27 ZB HZ9.out HIL.out HSL.out HOL.out ?_; have hfs : Fr0 w9 ((w9.alloc (.cells ZB 27)).setRow w9.heap.size LX) := ArrKit.Fr.row (Fr.alloc (Fr.refl _ _) _) _ _ (.inl (Nat.le_refl _)); have HXs := Lib.hid (hfs.keep HX9.out (fun h => h)); have HRs := Lib.hid (hfs.keep HR9.out (fun h => h)); have HTs := Lib.hid (hfs.keep HT9.out (fun h => h)); have HFs := Lib.hid (HF9.out.then0 hfs); have HRWs := Lib.hid (HRW9.out.keep0 hfs); have HLs : Hid (Bk ((w9.alloc (.cells ZB 27)).setRow w9.heap.size LX) w9.heap.size LX 27) := Lib.hid (ArrKit.Bk.row HZ9.out _); clear hfs; change wpList _ _ _ _ _ ((w9.alloc (.cells ZB 27)).setRow w9.heap.size LX); generalize hWs : ((w9.alloc (.cells ZB 27)).setRow w9.heap.size LX) = ws at *; clear hWs; generalize w9.heap.size = q9 at *) | ((with_reducible show wpList _ _ _ ({ dst := _, op := Op.load 27 _, type := _, pos := _, after := _, guard := _ } :: _) _ _); refine wpList_load_row_g (by rfl) 27 _ rfl q9 rfl 27 _ (0, 0) _ HLs.out Tryd.underlying27 rfl HIL.out ?_) | ((with_reducible show wpList _ _ _ ({ dst := _, op := Op.load 27 _, type := _, pos := _, after := _, guard := _ } :: _) _ _); refine wpList_load_row_g (by rfl) 27 _ rfl w.heap.size rfl 27 _ (0, 0) _ HXs.out Tryd.underlying27 rfl HIB.out ?_) | ((with_reducible show wpList _ _ _ ({ dst := _, op := Op.binOp .neq 27 _ _ _, type := _, pos := _, after := _, guard := _ } :: _) _ _); refine NeqKit.wpList_neq_g (by rfl) rfl rfl rfl DiskSame.guard_b HEB.out ?_) | ((with_reducible show wpList _ _ _ ({ dst := _, op := Op.build 24 _, type := _, pos := _, after := _, guard := _ } :: _) _ _); refine build_ev rfl 24 _ rfl [] (by simp) RZ built_rz ?_) | ((with_reducible show wpList _ _ _ ({ dst := _, op := Op.store 24 _ _, type := _, pos := _, after := _, guard := _ } :: _) _ _); refine wpList_store_row rfl 24 _ _ rfl (w.heap.size + 1) RZ rfl rfl 24 RZ HRs.out (HIN.out _ _) rfl (RC_all _ _ _ _) ?_))
        refine fin_ct (w.heap.size + 1) 24 RZ (.int .i64 15) (by rfl) (by rfl) (by rfl) (by rfl) Tryd.underlying24 (by rfl) (HIN.out _ _) (ArrKit.Bk.row HRs.out _) ?_
        refine ⟨none, 0, ?_, ?_, ArrKit.Fr.row HFs.out _ _ (.inl (by omega))⟩
        · rw [HTX.out.1, HTX.out.2]; rfl
        · rw [HTX.out.1]; exact rv_none _
      | true =>
        have heE : tabE (takM l) s = 0 := by unfold tabE; rw [htb]; rfl
        have hxL : tabX (takM l) s = tabL (takM l) := by unfold tabX; rw [htb]; rfl
        have HEB : Hid (∀ W, (Op.equalIn 10000 27 (.agg ((tabX (takM l) s).map B).toArray) (.agg (l.map B).toArray)).run Tryd.prog W = .ok (decide (tabX (takM l) s = l)) W) := Lib.hid (fun W => eq_bytes (P := Tryd.prog) Tryd.underlying27 Tryd.underlying5 (by kernel_rfl) (by kernel_rfl) (by kernel_rfl) _ _ hxl HLL.out W)
        rw [heE] at HPU
        by_cases heq : tabX (takM l) s = l
        · have HTX : Hid (takX l s = takM l ∧ takE l s = 0) := Lib.hid (by unfold takX takE; rw [HTB.out, htb, ← hxL, decide_eq_true heq]; exact ⟨rfl, rfl⟩)
          rw [decide_eq_true heq] at HEB
          clear heE htb hxL heq hxl
          generalize ((tabX (takM l) s).map B).toArray = LX at *
          go_wp2_with (first | ((with_reducible show wpList _ _ _ ({ dst := _, op := Op.load 24 _, type := _, pos := _, after := _, guard := _ } :: _) _ _); refine wpList_load_row_g (by rfl) 24 _ rfl (w.heap.size + 1 + 1) rfl 24 _ (0, 0) _ HT.out Tryd.underlying24 rfl (HIN.out _ _) ?_) | (go_at_call 11; (with_reducible refine (HPU.out).mono ?_); rintro e w9 ⟨rfl, hf9⟩; have HX9 := Lib.hid (hf9.keep HX.out (fun h => h)); have HR9 := Lib.hid (hf9.keep HR.out (fun h => h)); have HT9 := Lib.hid (hf9.keep HT.out (fun h => h)); have HF9 := Lib.hid (HF.out.then0 hf9); have HRW9 := Lib.hid (HROW.out.keep0 hf9); have HZ9 := Lib.hid (Bk.new w9 (.cells ZB 27)); clear hf9) | ((with_reducible show wpList _ _ _ ({ dst := _, op := Op.store 27 _ _, type := _, pos := _, after := _, guard := _ } :: _) _ _); refine wpList_store_row rfl 27 _ _ rfl w9.heap.size LX rfl rfl 27 ZB HZ9.out HIL.out HSL.out HOL.out ?_; have hfs : Fr0 w9 ((w9.alloc (.cells ZB 27)).setRow w9.heap.size LX) := ArrKit.Fr.row (Fr.alloc (Fr.refl _ _) _) _ _ (.inl (Nat.le_refl _)); have HXs := Lib.hid (hfs.keep HX9.out (fun h => h)); have HRs := Lib.hid (hfs.keep HR9.out (fun h => h)); have HTs := Lib.hid (hfs.keep HT9.out (fun h => h)); have HFs := Lib.hid (HF9.out.then0 hfs); have HRWs := Lib.hid (HRW9.out.keep0 hfs); have HLs : Hid (Bk ((w9.alloc (.cells ZB 27)).setRow w9.heap.size LX) w9.heap.size LX 27) := Lib.hid (ArrKit.Bk.row HZ9.out _); clear hfs; change wpList _ _ _ _ _ ((w9.alloc (.cells ZB 27)).setRow w9.heap.size LX); generalize hWs : ((w9.alloc (.cells ZB 27)).setRow w9.heap.size LX) = ws at *; clear hWs; generalize w9.heap.size = q9 at *) | ((with_reducible show wpList _ _ _ ({ dst := _, op := Op.load 27 _, type := _, pos := _, after := _, guard := _ } :: _) _ _); refine wpList_load_row_g (by rfl) 27 _ rfl q9 rfl 27 _ (0, 0) _ HLs.out Tryd.underlying27 rfl HIL.out ?_) | ((with_reducible show wpList _ _ _ ({ dst := _, op := Op.load 27 _, type := _, pos := _, after := _, guard := _ } :: _) _ _); refine wpList_load_row_g (by rfl) 27 _ rfl w.heap.size rfl 27 _ (0, 0) _ HXs.out Tryd.underlying27 rfl HIB.out ?_) | ((with_reducible show wpList _ _ _ ({ dst := _, op := Op.binOp .neq 27 _ _ _, type := _, pos := _, after := _, guard := _ } :: _) _ _); refine NeqKit.wpList_neq_g (by rfl) rfl rfl rfl DiskSame.guard_b HEB.out ?_) | ((with_reducible show wpList _ _ _ ({ dst := _, op := Op.build 24 _, type := _, pos := _, after := _, guard := _ } :: _) _ _); refine build_ev rfl 24 _ rfl [] (by simp) RZ built_rz ?_) | ((with_reducible show wpList _ _ _ ({ dst := _, op := Op.store 24 _ _, type := _, pos := _, after := _, guard := _ } :: _) _ _); refine wpList_store_row rfl 24 _ _ rfl (w.heap.size + 1) (RC gen (.slice a j cap)) rfl rfl 24 RZ HRs.out (HIN.out _ _) rfl (RC_all _ _ _ _) ?_) | ((with_reducible show wpList _ _ _ ({ dst := _, op := Op.load 24 _, type := _, pos := _, after := _, guard := _ } :: _) _ _); refine wpList_load_row_g (by rfl) 24 _ rfl (w.heap.size + 1 + 1) rfl 24 _ (0, 0) _ HTs.out Tryd.underlying24 rfl (HIN.out _ _) ?_))
          refine fin_ct (w.heap.size + 1) 24 (RC gen (.slice a j cap)) (.int .i64 0) (by rfl) (by rfl) (by rfl) (by rfl) Tryd.underlying24 (by rfl) (HIN.out _ _) (ArrKit.Bk.row HRs.out _) ?_
          refine ⟨a, cap, ?_, ?_, ArrKit.Fr.row HFs.out _ _ (.inl (by omega))⟩
          · rw [HTX.out.1, HTX.out.2, HEV.out]
          · rw [HTX.out.1]; exact rv_row (HRWs.out.keep (S := fun i => i = (w.heap.size + 1)) (Fr.row1 _ _ _) (fun g e => by have := (HRWs.out.blk g e).1; omega))
        · have HTX : Hid (takX l s = ⟨0, []⟩ ∧ takE l s = 15) := Lib.hid (by unfold takX takE; rw [HTB.out, htb, ← hxL, decide_eq_false heq]; exact ⟨rfl, rfl⟩)
          rw [decide_eq_false heq] at HEB
          clear heE htb hxL heq hxl
          generalize ((tabX (takM l) s).map B).toArray = LX at *
          go_wp2_with (first | ((with_reducible show wpList _ _ _ ({ dst := _, op := Op.load 24 _, type := _, pos := _, after := _, guard := _ } :: _) _ _); refine wpList_load_row_g (by rfl) 24 _ rfl (w.heap.size + 1 + 1) rfl 24 _ (0, 0) _ HT.out Tryd.underlying24 rfl (HIN.out _ _) ?_) | (go_at_call 11; (with_reducible refine (HPU.out).mono ?_); rintro e w9 ⟨rfl, hf9⟩; have HX9 := Lib.hid (hf9.keep HX.out (fun h => h)); have HR9 := Lib.hid (hf9.keep HR.out (fun h => h)); have HT9 := Lib.hid (hf9.keep HT.out (fun h => h)); have HF9 := Lib.hid (HF.out.then0 hf9); have HRW9 := Lib.hid (HROW.out.keep0 hf9); have HZ9 := Lib.hid (Bk.new w9 (.cells ZB 27)); clear hf9) | ((with_reducible show wpList _ _ _ ({ dst := _, op := Op.store 27 _ _, type := _, pos := _, after := _, guard := _ } :: _) _ _); refine wpList_store_row rfl 27 _ _ rfl w9.heap.size LX rfl rfl 27 ZB HZ9.out HIL.out HSL.out HOL.out ?_; have hfs : Fr0 w9 ((w9.alloc (.cells ZB 27)).setRow w9.heap.size LX) := ArrKit.Fr.row (Fr.alloc (Fr.refl _ _) _) _ _ (.inl (Nat.le_refl _)); have HXs := Lib.hid (hfs.keep HX9.out (fun h => h)); have HRs := Lib.hid (hfs.keep HR9.out (fun h => h)); have HTs := Lib.hid (hfs.keep HT9.out (fun h => h)); have HFs := Lib.hid (HF9.out.then0 hfs); have HRWs := Lib.hid (HRW9.out.keep0 hfs); have HLs : Hid (Bk ((w9.alloc (.cells ZB 27)).setRow w9.heap.size LX) w9.heap.size LX 27) := Lib.hid (ArrKit.Bk.row HZ9.out _); clear hfs; change wpList _ _ _ _ _ ((w9.alloc (.cells ZB 27)).setRow w9.heap.size LX); generalize hWs : ((w9.alloc (.cells ZB 27)).setRow w9.heap.size LX) = ws at *; clear hWs; generalize w9.heap.size = q9 at *) | ((with_reducible show wpList _ _ _ ({ dst := _, op := Op.load 27 _, type := _, pos := _, after := _, guard := _ } :: _) _ _); refine wpList_load_row_g (by rfl) 27 _ rfl q9 rfl 27 _ (0, 0) _ HLs.out Tryd.underlying27 rfl HIL.out ?_) | ((with_reducible show wpList _ _ _ ({ dst := _, op := Op.load 27 _, type := _, pos := _, after := _, guard := _ } :: _) _ _); refine wpList_load_row_g (by rfl) 27 _ rfl w.heap.size rfl 27 _ (0, 0) _ HXs.out Tryd.underlying27 rfl HIB.out ?_) | ((with_reducible show wpList _ _ _ ({ dst := _, op := Op.binOp .neq 27 _ _ _, type := _, pos := _, after := _, guard := _ } :: _) _ _); refine NeqKit.wpList_neq_g (by rfl) rfl rfl rfl DiskSame.guard_b HEB.out ?_) | ((with_reducible show wpList _ _ _ ({ dst := _, op := Op.build 24 _, type := _, pos := _, after := _, guard := _ } :: _) _ _); refine build_ev rfl 24 _ rfl [] (by simp) RZ built_rz ?_) | ((with_reducible show wpList _ _ _ ({ dst := _, op := Op.store 24 _ _, type := _, pos := _, after := _, guard := _ } :: _) _ _); refine wpList_store_row rfl 24 _ _ rfl (w.heap.size + 1) RZ rfl rfl 24 RZ HRs.out (HIN.out _ _) rfl (RC_all _ _ _ _) ?_))
          refine fin_ct (w.heap.size + 1) 24 RZ (.int .i64 15) (by rfl) (by rfl) (by rfl) (by rfl) Tryd.underlying24 (by rfl) (HIN.out _ _) (ArrKit.Bk.row HRs.out _) ?_
          refine ⟨none, 0, ?_, ?_, ArrKit.Fr.row HFs.out _ _ (.inl (by omega))⟩
          · rw [HTX.out.1, HTX.out.2]; rfl
          · rw [HTX.out.1]; exact rv_none _
theorem take_calls (l : List UInt8) (s : Int) (w : World) (hl : l.length = 128) (hs : (Lit.int .i64 s).wf = true) (hsh : Sh w) : Calls Tryd.prog 27 #[.agg (l.map B).toArray, .int .i64 s] w fun e w' => ∃ a c, e = .returned (.tuple #[.agg (rval (takX l s) a c), .int .i64 (takE l s)]) ∧ RV w' (takX l s) a c ∧ Fr0 w w' := by
  by_cases hg : takG l < 2 ^ 63
  · by_cases hk : takK l ≤ 20
    · exact take_main l s w hl hs hsh hg hk
    · exact take_many l s w hl hg hk
  · exact take_form l s w hl hg

end Go.Proofs.YtlleandelcjhjaaDoor.RmTake
namespace Go.Proofs.YtlleandelcjhjaaDoor.RmTakePut
open Go Go.RowKit Go.Proofs.YtlleandelcjhjaaDoor.K Go.Proofs.YtlleandelcjhjaaDoor.EqKit Go.Proofs.YtlleandelcjhjaaDoor.ArrKit Go.Proofs.YtlleandelcjhjaaDoor.HeldKit Go.Proofs.YtlleandelcjhjaaDoor.GKit Go.Proofs.YtlleandelcjhjaaDoor.GRow Go.Proofs.YtlleandelcjhjaaDoor.DiskKit Go.Proofs.YtlleandelcjhjaaDoor.RmKit Go.Proofs.YtlleandelcjhjaaDoor.MapKit Go.Proofs.YtlleandelcjhjaaDoor.RmRight Go.Proofs.YtlleandelcjhjaaDoor.RmRRight Go.Proofs.YtlleandelcjhjaaDoor.RmTab Go.Proofs.YtlleandelcjhjaaDoor.RmPut Go.Proofs.YtlleandelcjhjaaDoor.RmTake Go.Proofs.YtlleandelcjhjaaDoor.WordPut Go.Proofs.YtlleandelcjhjaaDoor.WordTake Go.Proofs.YtlleandelcjhjaaDoor.RefWord Go.Proofs.YtlleandelcjhjaaDoor.ShaPlain Go.Proofs.YtlleandelcjhjaaDoor.ShaSum Go.Proofs.YtlleandelcjhjaaDoor.ShaStep Go.Proofs.YtlleandelcjhjaaDoor.ShaRef Go.Proofs.YtlleandelcjhjaaDoor.ShaPad
theorem num_le (k : Nat) : ∀ x, num (le x k) = x % 256 ^ k := by
  induction k with
  | zero => intro x; simp [le, num, Nat.mod_one]
  | succ k ih =>
    intro x
    simp only [le, num, ih, UInt8.toNat_ofNat']
    rw [show (256 : Nat) ^ (k + 1) = 256 * 256 ^ k by rw [Nat.pow_succ, Nat.mul_comm], Nat.mod_mul]
theorem mid_take {α : Type} {l A M R : List α} {p k : Nat} (h : l = A ++ (M ++ R)) (hp : A.length = p) (hk : M.length = k) : (l.drop p).take k = M := by
  subst h
  rw [List.drop_left' hp, List.take_left' hk]
theorem tab_pre (m : Rm) (h2 : m.ps.length ≤ 20) : ∃ R, tabL m = pre m m.ps.length ++ R := by
  have e : headB m = pre m m.ps.length ++ (List.replicate (118 - 4 * m.ps.length) 0).take (96 - (pre m m.ps.length).length) := by
    rw [headB, bodyB, List.take_append, List.take_of_length_le (by rw [pre_len m (Nat.le_refl _)]; omega)]
  refine ⟨(List.replicate (118 - 4 * m.ps.length) 0).take (96 - (pre m m.ps.length).length) ++ sumOf (headB m), ?_⟩
  rw [← List.append_assoc, ← e]
  rfl
theorem pre_all (m : Rm) : pre m m.ps.length = hd0 m ++ m.ps.flatMap pb := by rw [pre, List.take_length]
theorem take_put {m : Rm} {s : Int} (h : tabB m s = true) : takX (tabL m) s = m ∧ takE (tabL m) s = 0 := by
  have hp := tab_parts h
  have h2 := hp.2.2.2.1
  obtain ⟨R, hR⟩ := tab_pre m h2
  have hG : takG (tabL m) = m.gen.toNat := by
    unfold takG
    rw [mid_take (A := [109]) (M := le m.gen.toNat 8) (R := [UInt8.ofNat m.ps.length] ++ m.ps.flatMap pb ++ R) (p := 1) (k := 8) (by rw [hR, pre_all, hd0]; simp) rfl (by simp), num_le]
    exact Nat.mod_eq_of_lt (by omega)
  have hK : takK (tabL m) = m.ps.length := by
    have h9 : (tabL m)[9]? = some (UInt8.ofNat m.ps.length) := by
      have e : tabL m = ([109] ++ le m.gen.toNat 8) ++ (UInt8.ofNat m.ps.length :: (m.ps.flatMap pb ++ R)) := by rw [hR, pre_all, hd0]; simp
      rw [e, List.getElem?_append_right (by simp)]
      simp
    unfold takK
    rw [List.getD_eq_getElem?_getD, h9, Option.getD_some, UInt8.toNat_ofNat']
    exact Nat.mod_eq_of_lt (by omega)
  have hpair : ∀ i (hi : i < m.ps.length), takF (tabL m) i = m.ps[i].1.toNat ∧ takT (tabL m) i = m.ps[i].2.toNat := fun i hi => by
    have ht := tab_pair h hi
    have e : pre m m.ps.length = pre m i ++ (le m.ps[i].1.toNat 2 ++ (le m.ps[i].2.toNat 2 ++ (m.ps.drop (i + 1)).flatMap pb)) := by
      have e0 : m.ps = m.ps.take i ++ m.ps[i] :: m.ps.drop (i + 1) := by rw [List.getElem_cons_drop, List.take_append_drop]
      rw [pre_all, pre]
      conv => lhs; rw [e0]
      rw [List.flatMap_append, List.flatMap_cons, pb]
      simp only [List.append_assoc]
    constructor
    · unfold takF
      rw [mid_take (A := pre m i) (M := le m.ps[i].1.toNat 2) (R := le m.ps[i].2.toNat 2 ++ (m.ps.drop (i + 1)).flatMap pb ++ R) (by rw [hR, e]; simp only [List.append_assoc]) (pre_len m (Nat.le_of_lt hi)) (by simp), num_le]
      exact Nat.mod_eq_of_lt (by omega)
    · unfold takT
      rw [mid_take (A := pre m i ++ le m.ps[i].1.toNat 2) (M := le m.ps[i].2.toNat 2) (R := (m.ps.drop (i + 1)).flatMap pb ++ R) (by rw [hR, e]; simp only [List.append_assoc]) (by rw [List.length_append, pre_len m (Nat.le_of_lt hi), le_length]; omega) (by simp), num_le]
      exact Nat.mod_eq_of_lt (by omega)
  have hM : takM (tabL m) = m := by
    have hPs : takP (tabL m) = m.ps := by
      apply List.ext_getElem
      · rw [takP_len, hK]
      · intro i hi hi2
        rw [takP_get]
        have ht := tab_pair h hi2
        have hq := hpair i hi2
        rw [hq.1, hq.2]
        exact Prod.ext (by show ((m.ps[i].1.toNat : Nat) : Int) = _; omega) (by show ((m.ps[i].2.toNat : Nat) : Int) = _; omega)
    unfold takM
    rw [hPs, hG]
    have hg : ((m.gen.toNat : Nat) : Int) = m.gen := by omega
    rw [hg]
  have hB : takB (tabL m) s = true := by
    unfold takB
    rw [hM, h, hG, hK, decide_eq_true (by omega : m.gen.toNat < 2 ^ 63), decide_eq_true h2, decide_eq_true rfl]
    rfl
  unfold takX takE
  rw [if_pos hB, if_pos hB, hM]
  exact ⟨rfl, rfl⟩

end Go.Proofs.YtlleandelcjhjaaDoor.RmTakePut
