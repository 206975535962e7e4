/- A table's bytes: the walks of the reference's Seal and Put. -/
import Derived.Test.YtlleandelcjhjaaDoorRmPut
set_option maxRecDepth 100000
set_option linter.unusedVariables false
set_option linter.unusedSimpArgs false
namespace Go.Proofs.YtlleandelcjhjaaDoor.RmRPut
open Go Go.RowKit Go.Proofs.YtlleandelcjhjaaDoor.K Go.Proofs.YtlleandelcjhjaaDoor.EqKit Go.Proofs.YtlleandelcjhjaaDoor.ArrKit Go.Proofs.YtlleandelcjhjaaDoor.HeldKit Go.Proofs.YtlleandelcjhjaaDoor.GKit Go.Proofs.YtlleandelcjhjaaDoor.GRow Go.Proofs.YtlleandelcjhjaaDoor.DiskKit Go.Proofs.YtlleandelcjhjaaDoor.RmKit Go.Proofs.YtlleandelcjhjaaDoor.MapKit Go.Proofs.YtlleandelcjhjaaDoor.RmRight Go.Proofs.YtlleandelcjhjaaDoor.RmRRight Go.Proofs.YtlleandelcjhjaaDoor.DiskRRead Go.Proofs.YtlleandelcjhjaaDoor.ShaRot Go.Proofs.YtlleandelcjhjaaDoor.ShaSpread Go.Proofs.YtlleandelcjhjaaDoor.ShaStep Go.Proofs.YtlleandelcjhjaaDoor.ShaPlain Go.Proofs.YtlleandelcjhjaaDoor.ShaRef Go.Proofs.YtlleandelcjhjaaDoor.WordPut Go.Proofs.YtlleandelcjhjaaDoor.ShaSum Go.Proofs.YtlleandelcjhjaaDoor.RmTab Go.Proofs.YtlleandelcjhjaaDoor.RmPut

/-- a block sealed -/
def sealX (L : List UInt8) : List UInt8 := L.take 96 ++ sumOf (L.take 96)
theorem sealX_len {L : List UInt8} (h : L.length = 128) : (sealX L).length = 128 := by
  rw [sealX, List.length_append, List.length_take, h, sumOf_length]; rfl
theorem sealX_spl {L : List UInt8} (h : L.length = 128) : spl L 96 (sumOf (L.take 96)) = sealX L := by
  rw [spl, sumOf_length, List.drop_eq_nil_of_le (by rw [h]; omega), List.append_nil]; rfl
theorem sealX_tab (m : Rm) : sealX (bodyB m m.ps.length) = tabL m := rfl
set_option maxHeartbeats 2000000 in
set_option maxRecDepth 100000 in
theorem seal_calls (L : List UInt8) (w : World) (hl : L.length = 128) : Calls Tryd.prog 38 #[.agg (L.map B).toArray] w fun e w' => e = .returned (.agg ((sealX L).map B).toArray) ∧ Fr0 w w' := by
  have hz := zero_bl
  have hz2 := zero_32
  have hs1 : (w.alloc (.cells (L.map B).toArray 27)).heap.size = w.heap.size + 1 := by simp
  have HX : Hid (Bk ((w.alloc (.cells (L.map B).toArray 27)).alloc (.cells ZB 27)) w.heap.size (L.map B).toArray 27) := Lib.hid (Bk.alloc (Bk.new w _) _)
  have HR : Hid (Bk ((w.alloc (.cells (L.map B).toArray 27)).alloc (.cells ZB 27)) (w.heap.size + 1) ZB 27) := Lib.hid (by have := Bk.new (w.alloc (.cells (L.map B).toArray 27)) (.cells ZB 27); rwa [hs1] at this)
  have HF : Hid (Fr0 w ((w.alloc (.cells (L.map B).toArray 27)).alloc (.cells ZB 27))) := Lib.hid (Fr.alloc (Fr.alloc (Fr.refl _ _) _) _)
  have hhl : (L.take 96).length = 96 := by rw [List.length_take, hl]; rfl
  have HRD : Hid (Rd ((w.alloc (.cells (L.map B).toArray 27)).alloc (.cells ZB 27)) (some ⟨w.heap.size, 0, none⟩) (L.take 96)) := Lib.hid (Rd.block HX.out (fun i hi => by
    rw [hhl] at hi
    rw [Nat.zero_add, List.getElem?_toArray, List.getElem?_map, List.getElem?_eq_getElem (by omega)]
    simp))
  have HSU : Hid (Calls Tryd.prog 67 #[.slice (some ⟨w.heap.size, 0, none⟩) 96 128] ((w.alloc (.cells (L.map B).toArray 27)).alloc (.cells ZB 27)) fun e w' => e = .returned (.agg ((sumOf (L.take 96)).map B).toArray) ∧ Fr0 ((w.alloc (.cells (L.map B).toArray 27)).alloc (.cells ZB 27)) w') := Lib.hid (ShaRSum.rsum_calls _ 96 128 (L.take 96) ((w.alloc (.cells (L.map B).toArray 27)).alloc (.cells ZB 27)) hhl HRD.out (by omega))
  have hsl := sumOf_length (L.take 96)
  have HST : Hid (spl L 96 (sumOf (L.take 96)) = sealX L) := Lib.hid (sealX_spl hl)
  have HI32 : Hid ((Tryd.prog.info? 70).map (·.size) = some ((sumOf (L.take 96)).map B).toArray.size ∧ Z32.size = ((sumOf (L.take 96)).map B).toArray.size) := Lib.hid (by rw [info32a, List.size_toArray, List.length_map, hsl]; exact ⟨rfl, rfl⟩)
  have HO32 := Lib.hid (one_l (sumOf (L.take 96)))
  have HSX := Lib.hid (sealX_len hl)
  clear hs1 HRD hhl
  generalize sumOf (L.take 96) = sm at *
  go_enter Tryd.func38, Tryd.ntmps38
  go_wp2_with (first | (go_at_call 67; (with_reducible refine (HSU.out).mono ?_); rintro e w9 ⟨rfl, hf9⟩; have HZ9 := Lib.hid (Bk.new w9 (.cells Z32 70)); have HG9 := Lib.hid (hf9.keep HX.out (fun h => h)); have HR9 := Lib.hid (hf9.keep HR.out (fun h => h)); have HF9 := Lib.hid (HF.out.then0 hf9); clear hf9) | ((with_reducible show wpList _ _ _ ({ dst := _, op := Op.store 70 _ _, type := _, pos := _, after := _, guard := _ } :: _) _ _); refine wpList_store_row rfl 70 _ _ rfl w9.heap.size (sm.map B).toArray rfl rfl 70 Z32 HZ9.out HI32.out.1 HI32.out.2 HO32.out ?_))
  have hfa : Fr0 w9 ((w9.alloc (.cells Z32 70)).setRow w9.heap.size (sm.map B).toArray) := ArrKit.Fr.row (Fr.alloc (Fr.refl _ _) _) _ _ (.inl (Nat.le_refl _))
  have HSa := Lib.hid (ArrKit.Bk.row HZ9.out (sm.map B).toArray)
  have HGa := Lib.hid (hfa.keep HG9.out (fun h => h))
  have HRa := Lib.hid (hfa.keep HR9.out (fun h => h))
  have HFa := Lib.hid (HF9.out.then0 hfa)
  have hgs : w.heap.size < w9.heap.size ∧ w.heap.size + 1 < w9.heap.size := ⟨Bk.lt HG9.out, Bk.lt HR9.out⟩
  clear hfa HZ9 HG9 HR9 HF9 HX HR HF HSU
  generalize (w9.alloc (.cells Z32 70)).setRow w9.heap.size (sm.map B).toArray = wa at *
  generalize w9.heap.size = gs at *
  go_loopw [4] (fun jj W => ∃ j : Nat, j ≤ 32 ∧ jj = .int .i64 j ∧ Bk W w.heap.size (lay (L.map B).toArray 96 ((sm.map B).take j)) 27 ∧ Bk W (w.heap.size + 1) ZB 27 ∧ Bk W gs (sm.map B).toArray 70 ∧ Fr0 w W) (fun jj _ => 32 - (intOf jj).toNat)
  case atStart => exact ⟨0, Nat.zero_le _, rfl, by rw [List.take_zero]; exact HGa.out, HRa.out, HSa.out, HFa.out⟩
  case round =>
    obtain ⟨j, hj, rfl, hg, hr, hs, hF⟩ := hrel
    by_cases hjl : j < 32
    · have c5 : wr.cell? ⟨gs, j, none⟩ = some (B sm[j]) := (Bk.cell hs j).trans (by rw [List.getElem?_toArray, List.getElem?_map, List.getElem?_eq_getElem (by omega)]; rfl)
      obtain ⟨v0, c6⟩ : ∃ v0, wr.cell? ⟨w.heap.size, 96 + j, none⟩ = some v0 := ⟨_, (Bk.cell hg (96 + j)).trans (Array.getElem?_eq_getElem (by simp [hl]; omega))⟩
      have f6 := Bk.free hg (96 + j)
      have cz : decide ((j : Int) < 32) = true := decide_eq_true (by omega)
      have HJL := Lib.hid hjl
      have hw96 : IntKind.i64.wrap (96 + (j : Int)) = 96 + (j : Int) := wr_i _ (by omega) (by omega)
      have HTK : Hid (lay (L.map B).toArray 96 ((sm.map B).take (j + 1)) = (lay (L.map B).toArray 96 ((sm.map B).take j)).setIfInBounds (96 + j) (B sm[j])) := Lib.hid (by rw [lay_take (by simp; omega), List.getElem_map])
      have HG := Lib.hid hg
      have HR := Lib.hid hr
      have HS := Lib.hid hs
      have HF := Lib.hid hF
      clear hg hr hs hF
      rw [B_def] at c5
      generalize hq : sm[j].toNat = q at *
      have HQ := Lib.hid hq
      clear hq
      go_wp2
      go_roundw
      case rel => exact ⟨j + 1, by have := HJL.out; omega, by go_num, by rw [HTK.out, B_def, HQ.out]; exact HG.out.set _ _, Bk.setOther HR.out _ _ (by show w.heap.size + 1 ≠ w.heap.size; omega), Bk.setOther HS.out _ _ (by show gs ≠ w.heap.size; omega), Fr.set HF.out _ _ (.inl (Nat.le_refl _))⟩
      case measure => have := HJL.out; simp [intOf]; omega
    · have hje : j = 32 := by omega
      subst hje
      have hg2 : Bk wr w.heap.size ((sealX L).map B).toArray 27 := by
        rw [List.take_of_length_le (by simp [hsl]), lay_spl _ _ _ (by omega), HST.out] at hg
        exact hg
      have HG := Lib.hid hg2
      have HR := Lib.hid hr
      have HF := Lib.hid hF
      clear hg hg2 hr hs hF
      go_wp2_with (first | ((with_reducible show wpList _ _ _ ({ dst := _, op := Op.load 27 _, type := _, pos := _, after := _, guard := _ } :: _) _ _); refine wpList_load_row_g (by rfl) 27 _ rfl w.heap.size rfl 27 ((sealX L).map B).toArray (0, 0) _ HG.out Tryd.underlying27 rfl (info_l HSX.out) ?_) | ((with_reducible show wpList _ _ _ ({ dst := _, op := Op.store 27 _ _, type := _, pos := _, after := _, guard := _ } :: _) _ _); refine wpList_store_row rfl 27 _ _ rfl (w.heap.size + 1) ((sealX L).map B).toArray rfl rfl 27 ZB HR.out (info_l HSX.out) (size_l HSX.out) (one_l _) ?_))
      refine fin_c (w.heap.size + 1) 27 ((sealX L).map B).toArray (by rfl) (by rfl) (by rfl) Tryd.underlying27 (by rfl) (info_l HSX.out) (ArrKit.Bk.row HR.out _) ?_
      exact ⟨rfl, ArrKit.Fr.row HF.out _ _ (.inl (by omega))⟩

set_option maxHeartbeats 2000000 in
set_option maxRecDepth 100000 in
theorem rput_no (m : Rm) (a : Option Addr) (c : Nat) (s : Int) (w : World) (hok : m.ok) (hv : RV w m a c) (hs : (Lit.int .i64 s).wf = true) (ht : tabB m s = false) : Calls Tryd.prog 12 #[.agg (rval m a c), .int .i64 s] w fun e w' => e = .returned (.tuple #[.agg ZB, .int .i64 1]) ∧ Fr0 w w' := by
  have hz := zero_bl
  have hs1 : (w.alloc (.cells (rval m a c) 24)).heap.size = w.heap.size + 1 := by simp
  have hs2 : ((w.alloc (.cells (rval m a c) 24)).alloc (.cells ZB 27)).heap.size = w.heap.size + 1 + 1 := by simp
  have HX : Hid (Bk (((w.alloc (.cells (rval m a c) 24)).alloc (.cells ZB 27)).alloc (.cells ZB 27)) w.heap.size (rval m a c) 24) := Lib.hid (Bk.alloc (Bk.alloc (Bk.new w _) _) _)
  have HR : Hid (Bk (((w.alloc (.cells (rval m a c) 24)).alloc (.cells ZB 27)).alloc (.cells ZB 27)) (w.heap.size + 1) ZB 27) := Lib.hid (Bk.alloc (by have := Bk.new (w.alloc (.cells (rval m a c) 24)) (.cells ZB 27); rwa [hs1] at this) _)
  have HG : Hid (Bk (((w.alloc (.cells (rval m a c) 24)).alloc (.cells ZB 27)).alloc (.cells ZB 27)) (w.heap.size + 1 + 1) ZB 27) := Lib.hid (by have := Bk.new ((w.alloc (.cells (rval m a c) 24)).alloc (.cells ZB 27)) (.cells ZB 27); rwa [hs2] at this)
  have HF : Hid (Fr0 w (((w.alloc (.cells (rval m a c) 24)).alloc (.cells ZB 27)).alloc (.cells ZB 27))) := Lib.hid (Fr.alloc (Fr.alloc (Fr.alloc (Fr.refl _ _) _) _) _)
  have HRI : Hid (∀ W, Fr0 w W → Calls Tryd.prog 14 #[.agg (rval m a c), .int .i64 s] W fun e w' => e = .returned (.bool false) ∧ Fr0 W w') := Lib.hid (fun W f => by have := rright_calls m a c s W hok (hv.keep f) hs; rwa [ht] at this)
  have HIN : Hid ((Tryd.prog.info? 24).map (·.size) = some (rval m a c).size) := Lib.hid (info_r _ _)
  clear hs1 hs2
  clear hok hv ht
  generalize rval m a c = X at *
  go_enter Tryd.func12, Tryd.ntmps12
  go_wp2_with (first | ((with_reducible show wpList _ _ _ ({ dst := _, op := Op.load 24 _, type := _, pos := _, after := _, guard := _ } :: _) _ _); refine wpList_load_row_g (by rfl) 24 _ rfl w.heap.size rfl 24 X (0, 0) _ HX.out Tryd.underlying24 rfl HIN.out ?_) | (go_at_call 14; (with_reducible refine (HRI.out _ HF.out).mono ?_); rintro e w2 ⟨rfl, hf2⟩; have HR2 := Lib.hid (hf2.keep HR.out (fun h => h)); have HG2 := Lib.hid (hf2.keep HG.out (fun h => h)); have HX2 := Lib.hid (hf2.keep HX.out (fun h => h)); have HF2 := Lib.hid (HF.out.then0 hf2); clear hf2) | ((with_reducible show wpList _ _ _ ({ dst := _, op := Op.load 27 _, type := _, pos := _, after := _, guard := _ } :: _) _ _); refine wpList_load_row_g (by rfl) 27 _ rfl (w.heap.size + 1 + 1) rfl 27 ZB (0, 0) _ HG2.out Tryd.underlying27 rfl info_zb ?_) | ((with_reducible show wpList _ _ _ ({ dst := _, op := Op.store 27 _ _, type := _, pos := _, after := _, guard := _ } :: _) _ _); refine wpList_store_row rfl 27 _ _ rfl (w.heap.size + 1) ZB rfl rfl 27 ZB HR2.out info_zb rfl ZB_one ?_))
  refine fin_ct (w.heap.size + 1) 27 ZB (.int .i64 1) (by rfl) (by rfl) (by rfl) (by rfl) Tryd.underlying27 (by rfl) info_zb (ArrKit.Bk.row HR2.out _) ?_
  exact ⟨rfl, ArrKit.Fr.row HF2.out _ _ (.inl (by omega))⟩
theorem rwput_l {G p wd x : Nat} {l l' : List UInt8} (W : World) (hl : l.length = 128) (hp : p + wd ≤ 128) (hf : Fits x wd) (hx : x ≤ 9223372036854775807) (he : spl l p (le x wd) = l') (hb : Bk W G (l.map B).toArray 27) :
    Calls Tryd.prog 37 #[.slice (some ⟨G, 0, none⟩) 128 128, .int .i64 (p : Int), .int .i64 (wd : Int), .int .i64 (x : Int)] W fun e w' => e = .returned (.int .i64 0) ∧ Bk w' G (l'.map B).toArray 27 ∧ Fr (fun i => i = G) W w' := by
  refine (RefWord.put_ok G 0 128 128 p wd x _ 27 W hb (by omega) (by omega) (by omega) (by rw [List.size_toArray, List.length_map, hl]; omega) hx hp hf).mono ?_
  rintro e w' ⟨rfl, h1, h2⟩
  refine ⟨rfl, ?_, h2⟩
  rw [Nat.zero_add, lay_spl _ _ _ (by rw [le_length, hl]; exact hp), he] at h1
  exact h1
theorem l0_set : ZB.setIfInBounds 0 (.int .u8 109) = (L0.map B).toArray := by kernel_rfl
theorem body_set (m : Rm) (h : m.ps.length ≤ 20) : ((L1 m).map B).toArray.setIfInBounds 9 (.int .u8 (m.ps.length : Int)) = ((bodyB m 0).map B).toArray := by
  have h1 := lay_spl (L1 m) [UInt8.ofNat m.ps.length] 9 (by rw [L1_len]; simp)
  rw [stepLen] at h1
  rw [← h1]
  simp only [List.map_cons, List.map_nil, lay]
  rw [B_ofNat, Nat.mod_eq_of_lt (by omega)]
set_option maxHeartbeats 2000000 in
set_option maxRecDepth 100000 in
theorem rput_yes (m : Rm) (a : Option Addr) (c : Nat) (s : Int) (w : World) (hok : m.ok) (hv : RV w m a c) (hs : (Lit.int .i64 s).wf = true) (ht : tabB m s = true) : Calls Tryd.prog 12 #[.agg (rval m a c), .int .i64 s] w fun e w' => e = .returned (.tuple #[.agg ((tabL m).map B).toArray, .int .i64 0]) ∧ Fr0 w w' := by
  have hz := zero_bl
  have hs1 : (w.alloc (.cells (rval m a c) 24)).heap.size = w.heap.size + 1 := by simp
  have hs2 : ((w.alloc (.cells (rval m a c) 24)).alloc (.cells ZB 27)).heap.size = w.heap.size + 1 + 1 := by simp
  have HX : Hid (Bk (((w.alloc (.cells (rval m a c) 24)).alloc (.cells ZB 27)).alloc (.cells ZB 27)) w.heap.size (rval m a c) 24) := Lib.hid (Bk.alloc (Bk.alloc (Bk.new w _) _) _)
  have HR : Hid (Bk (((w.alloc (.cells (rval m a c) 24)).alloc (.cells ZB 27)).alloc (.cells ZB 27)) (w.heap.size + 1) ZB 27) := Lib.hid (Bk.alloc (by have := Bk.new (w.alloc (.cells (rval m a c) 24)) (.cells ZB 27); rwa [hs1] at this) _)
  have HG : Hid (Bk (((w.alloc (.cells (rval m a c) 24)).alloc (.cells ZB 27)).alloc (.cells ZB 27)) (w.heap.size + 1 + 1) ZB 27) := Lib.hid (by have := Bk.new ((w.alloc (.cells (rval m a c) 24)).alloc (.cells ZB 27)) (.cells ZB 27); rwa [hs2] at this)
  have HF : Hid (Fr0 w (((w.alloc (.cells (rval m a c) 24)).alloc (.cells ZB 27)).alloc (.cells ZB 27))) := Lib.hid (Fr.alloc (Fr.alloc (Fr.alloc (Fr.refl _ _) _) _) _)
  have HRI : Hid (∀ W, Fr0 w W → Calls Tryd.prog 14 #[.agg (rval m a c), .int .i64 s] W fun e w' => e = .returned (.bool true) ∧ Fr0 W w') := Lib.hid (fun W f => by have := rright_calls m a c s W hok (hv.keep f) hs; rwa [ht] at this)
  have HIN : Hid ((Tryd.prog.info? 24).map (·.size) = some (rval m a c).size) := Lib.hid (info_r _ _)
  clear hs1 hs2
  have HV := Lib.hid hv
  have hpt := tab_parts ht
  have hlen := hpt.2.2.2.1
  have HPR : Hid (∀ i (hi : i < m.ps.length), ∃ f t : Nat, m.ps[i] = ((f : Int), (t : Int)) ∧ f < 4096 ∧ t < 4096) := Lib.hid (fun i hi => by
    have := tab_pair ht hi
    refine ⟨m.ps[i].1.toNat, m.ps[i].2.toNat, ?_, by omega, by omega⟩
    rw [Int.toNat_of_nonneg this.1, Int.toNat_of_nonneg this.2.2.1])
  obtain ⟨gn, hgn⟩ : ∃ gn : Nat, m.gen = (gn : Int) := ⟨m.gen.toNat, by omega⟩
  have HGN : Hid (m.gen.toNat = gn) := Lib.hid (by omega)
  have hgn2 : gn ≤ 4611686018427387904 := by omega
  have HW1 : Hid (∀ G W, Bk W G (L0.map B).toArray 27 → Calls Tryd.prog 37 #[.slice (some ⟨G, 0, none⟩) 128 128, .int .i64 1, .int .i64 8, .int .i64 (gn : Int)] W fun e w' => e = .returned (.int .i64 0) ∧ Bk w' G ((L1 m).map B).toArray 27 ∧ Fr (fun i => i = G) W w') := Lib.hid (fun G W h => rwput_l (p := 1) (wd := 8) W L0_len (by omega) (fits8 gn) (by omega) (by have := stepGen m; rwa [HGN.out] at this) h)
  have HP0 : Hid ((rval m a c)[0]? = some (.int .i64 (gn : Int))) := Lib.hid (by show some (Value.int .i64 m.gen) = _; rw [hgn])
  have HP1 : Hid ((rval m a c)[1]? = some (.slice a m.ps.length c)) := Lib.hid rfl
  clear hok hv ht hgn hpt
  generalize rval m a c = X at *
  have g0 : ∀ W, Bk W (w.heap.size + 1 + 1) ZB 27 → W.cell? ⟨w.heap.size + 1 + 1, 0, none⟩ = some (B 0) := fun W h => (Bk.cell h 0).trans rfl
  go_enter Tryd.func12, Tryd.ntmps12
  go_wp2_with (first | ((with_reducible show wpList _ _ _ ({ dst := _, op := Op.load 24 _, type := _, pos := _, after := _, guard := _ } :: _) _ _); refine wpList_load_row_g (by rfl) 24 _ rfl w.heap.size rfl 24 X (0, 0) _ HX.out Tryd.underlying24 rfl HIN.out ?_) | (go_at_call 14; (with_reducible refine (HRI.out _ HF.out).mono ?_); rintro e w2 ⟨rfl, hf2⟩; have HR2 := Lib.hid (hf2.keep HR.out (fun h => h)); have HG2 := Lib.hid (hf2.keep HG.out (fun h => h)); have HX2 := Lib.hid (hf2.keep HX.out (fun h => h)); have HF2 := Lib.hid (HF.out.then0 hf2); have c20 := g0 _ HG2.out; have f20 := Bk.free HG2.out 0; clear hf2))
  have hG1 : w.heap.size + 1 < w.heap.size + 1 + 1 := by omega
  have HG3 : Hid (Bk (w2.setCell ⟨w.heap.size + 1 + 1, 0, none⟩ (.int .u8 109)) (w.heap.size + 1 + 1) (L0.map B).toArray 27) := Lib.hid (by have := Bk.set HG2.out 0 (.int .u8 109); rwa [l0_set] at this)
  have HX3 : Hid (Bk (w2.setCell ⟨w.heap.size + 1 + 1, 0, none⟩ (.int .u8 109)) w.heap.size X 24) := Lib.hid (Bk.setOther HX2.out _ _ (by show w.heap.size ≠ w.heap.size + 1 + 1; omega))
  have HR3 : Hid (Bk (w2.setCell ⟨w.heap.size + 1 + 1, 0, none⟩ (.int .u8 109)) (w.heap.size + 1) ZB 27) := Lib.hid (Bk.setOther HR2.out _ _ (by show w.heap.size + 1 ≠ w.heap.size + 1 + 1; omega))
  have HF3 : Hid (Fr0 w (w2.setCell ⟨w.heap.size + 1 + 1, 0, none⟩ (.int .u8 109))) := Lib.hid (Fr.set HF2.out _ _ (.inl (by show w.heap.size ≤ w.heap.size + 1 + 1; omega)))
  clear c20 f20 HX2 HR2 HF2 HG2 HX HR HF HRI HIN g0 HG
  generalize w2.setCell ⟨w.heap.size + 1 + 1, 0, none⟩ (.int .u8 109) = w3 at *
  generalize w.heap.size + 1 + 1 = G at *
  have c0 : w3.cell? ⟨w.heap.size, 0, none⟩ = some (.int .i64 (gn : Int)) := (Bk.cell HX3.out 0).trans HP0.out
  go_still_tail 3, (by kernel_rfl)
  have HG4 := HG3
  have HX4 := HX3
  have HR4 := HR3
  have HF4 : Hid (Fr0 w w3.drew) := Lib.hid (Fr.drew HF3.out)
  clear HG3 HX3 HR3 HF3
  change wpList _ _ _ _ _ w3.drew
  change Hid (Bk w3.drew _ _ _) at HG4 HX4 HR4
  generalize w3.drew = w4 at *
  go_wp2_with (first | (go_at_call 37; (with_reducible refine (HW1.out G _ HG4.out).mono ?_); rintro e w5 ⟨rfl, hb_, hf_⟩; have HG5 := Lib.hid hb_; have HX5 := Lib.hid (hf_.keep HX4.out (by omega)); have HR5 := Lib.hid (hf_.keep HR4.out (by omega)); have HF5 : Hid (Fr0 w w5) := Lib.hid (Fr.newG HF4.out hf_ (by omega)); have c57 : w5.cell? ⟨w.heap.size, 1, none⟩ = some (.slice a m.ps.length c) := (Bk.cell HX5.out 1).trans HP1.out; obtain ⟨v9, c59⟩ : ∃ v, w5.cell? ⟨G, 9, none⟩ = some v := ⟨_, (Bk.cell HG5.out 9).trans (Array.getElem?_eq_getElem (by simp [L1_len]))⟩; have f59 := Bk.free HG5.out 9; clear hb_ hf_))
  have HG6 : Hid (Bk (w5.setCell ⟨G, 9, none⟩ (.int .u8 (m.ps.length : Int))) G ((bodyB m 0).map B).toArray 27) := Lib.hid (by have := Bk.set HG5.out 9 (.int .u8 (m.ps.length : Int)); rwa [body_set m hlen] at this)
  have HX6 : Hid (Bk (w5.setCell ⟨G, 9, none⟩ (.int .u8 (m.ps.length : Int))) w.heap.size X 24) := Lib.hid (Bk.setOther HX5.out _ _ (by show w.heap.size ≠ G; omega))
  have HR6 : Hid (Bk (w5.setCell ⟨G, 9, none⟩ (.int .u8 (m.ps.length : Int))) (w.heap.size + 1) ZB 27) := Lib.hid (Bk.setOther HR5.out _ _ (by show w.heap.size + 1 ≠ G; omega))
  have HF6 : Hid (Fr0 w (w5.setCell ⟨G, 9, none⟩ (.int .u8 (m.ps.length : Int)))) := Lib.hid (Fr.set HF5.out _ _ (.inl (by show w.heap.size ≤ G; omega)))
  clear c57 c59 f59 HG5 HX5 HR5 HF5
  generalize w5.setCell ⟨G, 9, none⟩ (.int .u8 (m.ps.length : Int)) = w6 at *
  go_loopw [7] (fun jj W => ∃ j : Nat, j ≤ m.ps.length ∧ jj = .int .i64 j ∧ Bk W G ((bodyB m j).map B).toArray 27 ∧ Bk W w.heap.size X 24 ∧ Bk W (w.heap.size + 1) ZB 27 ∧ Fr0 w W) (fun jj _ => m.ps.length - (intOf jj).toNat)
  case atStart => exact ⟨0, Nat.zero_le _, rfl, HG6.out, HX6.out, HR6.out, HF6.out⟩
  case round =>
    obtain ⟨j, hj, rfl, hg, hx, hr, hF⟩ := hrel
    have cx : wr.cell? ⟨w.heap.size, 1, none⟩ = some (.slice a m.ps.length c) := (Bk.cell hx 1).trans HP1.out
    by_cases hjl : j < m.ps.length
    · obtain ⟨b2, o2, rfl, hat⟩ := RdP.form HV.out.rd hjl
      have HAT := Lib.hid hat
      obtain ⟨f, t, hft, hf1, hf2⟩ := HPR.out j hjl
      have hs1 := step1 m m.ps[j].1 hj
      have hs2 := step2 m hjl
      have ca := (hat _ (HV.out.rd.keep hF)).2.1
      rw [hft] at hs1 hs2 ca
      rw [Int.toNat_natCast] at hs1
      simp only [Int.toNat_natCast] at hs2
      have HTT : Hid (m.ps[j].2 = (t : Int)) := Lib.hid (by rw [hft])
      have HWA : Hid (∀ W, Bk W G ((bodyB m j).map B).toArray 27 → Calls Tryd.prog 37 #[.slice (some ⟨G, 0, none⟩) 128 128, .int .i64 (10 + 4 * (j : Int)), .int .i64 2, .int .i64 (f : Int)] W fun e w' => e = .returned (.int .i64 0) ∧ Bk w' G ((halfB m j (f : Int)).map B).toArray 27 ∧ Fr (fun i => i = G) W w') := Lib.hid (fun W h => by have := rwput_l (p := 10 + 4 * j) (wd := 2) W (bodyB_len m hj hlen) (by omega) (fits2 (by omega)) (by omega) hs1 h; rwa [show ((10 + 4 * j : Nat) : Int) = 10 + 4 * (j : Int) by omega] at this)
      have HWB : Hid (∀ W, Bk W G ((halfB m j (f : Int)).map B).toArray 27 → Calls Tryd.prog 37 #[.slice (some ⟨G, 0, none⟩) 128 128, .int .i64 (12 + 4 * (j : Int)), .int .i64 2, .int .i64 (t : Int)] W fun e w' => e = .returned (.int .i64 0) ∧ Bk w' G ((bodyB m (j + 1)).map B).toArray 27 ∧ Fr (fun i => i = G) W w') := Lib.hid (fun W h => by have := rwput_l (p := 12 + 4 * j) (wd := 2) W (halfB_len m _ hj hlen) (by omega) (fits2 (by omega)) (by omega) hs2 h; rwa [show ((12 + 4 * j : Nat) : Int) = 12 + 4 * (j : Int) by omega] at this)
      have HG1 := Lib.hid hg
      have HX1 := Lib.hid hx
      have HR1 := Lib.hid hr
      have HF1 := Lib.hid hF
      clear hat hg hx hr hF hft hs1 hs2
      have hw4 : IntKind.i64.wrap (4 * (j : Int)) = 4 * (j : Int) := wr_i _ (by omega) (by omega)
      have hw10 : IntKind.i64.wrap (10 + 4 * (j : Int)) = 10 + 4 * (j : Int) := wr_i _ (by omega) (by omega)
      have hw12 : IntKind.i64.wrap (12 + 4 * (j : Int)) = 12 + 4 * (j : Int) := wr_i _ (by omega) (by omega)
      go_wp2
      go_still_tail 10, (by kernel_rfl)
      change wpList _ _ _ _ _ wr.drew
      have HGd : Hid (Bk wr.drew G ((bodyB m j).map B).toArray 27) := Lib.hid HG1.out
      have HXd : Hid (Bk wr.drew w.heap.size X 24) := Lib.hid HX1.out
      have HRd : Hid (Bk wr.drew (w.heap.size + 1) ZB 27) := Lib.hid HR1.out
      have HFd : Hid (Fr0 w wr.drew) := Lib.hid (Fr.drew HF1.out)
      clear HG1 HX1 HR1 HF1 cx ca
      generalize wr.drew = wd at *
      go_wp2_with (first | (go_at_call 37; (with_reducible refine (HWA.out  _ HGd.out).mono ?_); rintro e we ⟨rfl, hb_, hf_⟩; have HGe := Lib.hid hb_; have HXe := Lib.hid (hf_.keep HXd.out (by omega)); have HRe := Lib.hid (hf_.keep HRd.out (by omega)); have HFe : Hid (Fr0 w we) := Lib.hid (Fr.newG HFd.out hf_ (by omega)); have ce : we.cell? ⟨w.heap.size, 1, none⟩ = some (.slice (some ⟨b2, o2, none⟩) m.ps.length c) := (Bk.cell HXe.out 1).trans HP1.out; have cb : we.cell? ⟨b2, o2 + j * 2 + 1, none⟩ = some (.int .i64 (t : Int)) := (HAT.out _ (HV.out.rd.keep HFe.out)).2.2.trans (by rw [HTT.out]); clear hb_ hf_))
      go_still_tail 10, (by kernel_rfl)
      change wpList _ _ _ _ _ we.drew
      have HGg : Hid (Bk we.drew G ((halfB m j (f : Int)).map B).toArray 27) := Lib.hid HGe.out
      have HXg : Hid (Bk we.drew w.heap.size X 24) := Lib.hid HXe.out
      have HRg : Hid (Bk we.drew (w.heap.size + 1) ZB 27) := Lib.hid HRe.out
      have HFg : Hid (Fr0 w we.drew) := Lib.hid (Fr.drew HFe.out)
      clear HGe HXe HRe HFe HGd HXd HRd HFd ce cb
      generalize we.drew = wg at *
      go_wp2_with (first | (go_at_call 37; (with_reducible refine (HWB.out  _ HGg.out).mono ?_); rintro e wh ⟨rfl, hb_, hf_⟩; have HGh := Lib.hid hb_; have HXh := Lib.hid (hf_.keep HXg.out (by omega)); have HRh := Lib.hid (hf_.keep HRg.out (by omega)); have HFh : Hid (Fr0 w wh) := Lib.hid (Fr.newG HFg.out hf_ (by omega)); clear hb_ hf_))
      go_roundw
      case rel => exact ⟨j + 1, by omega, by go_num, HGh.out, HXh.out, HRh.out, HFh.out⟩
      case measure => simp [intOf]; omega
    · have hje : j = m.ps.length := by omega
      subst hje
      have HG8 := Lib.hid hg
      have HR8 := Lib.hid hr
      have HF8 := Lib.hid hF
      have hbl := bodyB_len m (Nat.le_refl _) hlen
      have HSE : Hid (Calls Tryd.prog 38 #[.agg ((bodyB m m.ps.length).map B).toArray] wr fun e w' => e = .returned (.agg ((tabL m).map B).toArray) ∧ Fr0 wr w') := Lib.hid (seal_calls _ wr hbl)
      have HTL := Lib.hid (tabL_len m hlen)
      have HBL := Lib.hid hbl
      clear hg hx hr hF hbl
      go_wp2_with (first | ((with_reducible show wpList _ _ _ ({ dst := _, op := Op.load 27 _, type := _, pos := _, after := _, guard := _ } :: _) _ _); refine wpList_load_row_g (by rfl) 27 _ rfl G rfl 27 ((bodyB m m.ps.length).map B).toArray (0, 0) _ HG8.out Tryd.underlying27 rfl (info_l HBL.out) ?_) | (go_at_call 38; (with_reducible refine (HSE.out).mono ?_); rintro e w9 ⟨rfl, hf9⟩; have HR9 := Lib.hid (hf9.keep HR8.out (fun h => h)); have HF9 := Lib.hid (HF8.out.then0 hf9); clear hf9) | ((with_reducible show wpList _ _ _ ({ dst := _, op := Op.store 27 _ _, type := _, pos := _, after := _, guard := _ } :: _) _ _); refine wpList_store_row rfl 27 _ _ rfl (w.heap.size + 1) ((tabL m).map B).toArray rfl rfl 27 ZB HR9.out (info_l HTL.out) (size_l HTL.out) (one_l _) ?_))
      refine fin_ct (w.heap.size + 1) 27 ((tabL m).map B).toArray (.int .i64 0) (by rfl) (by rfl) (by rfl) (by rfl) Tryd.underlying27 (by rfl) (info_l HTL.out) (ArrKit.Bk.row HR9.out _) ?_
      exact ⟨rfl, ArrKit.Fr.row HF9.out _ _ (.inl (by omega))⟩
theorem rput_calls (m : Rm) (a : Option Addr) (c : Nat) (s : Int) (w : World) (hok : m.ok) (hv : RV w m a c) (hs : (Lit.int .i64 s).wf = true) : Calls Tryd.prog 12 #[.agg (rval m a c), .int .i64 s] w fun e w' => e = .returned (.tuple #[.agg ((tabX m s).map B).toArray, .int .i64 (tabE m s)]) ∧ Fr0 w w' := by
  unfold tabX tabE
  cases ht : tabB m s with
  | false => exact rput_no m a c s w hok hv hs ht
  | true => exact rput_yes m a c s w hok hv hs ht

end Go.Proofs.YtlleandelcjhjaaDoor.RmRPut
