/- The theorems that the claim uses, text behind text (part 11). -/
import Derived.Test.YtlleandelcjhjaaDoorZad
import Derived.Test.YtlleandelcjhjaaDoorZaj
set_option maxRecDepth 100000
set_option linter.unusedVariables false
set_option linter.unusedSimpArgs false
namespace Go.Proofs.YtlleandelcjhjaaDoor.RmPut
open Go Go.RowKit Go.Proofs.YtlleandelcjhjaaDoor.K Go.Proofs.YtlleandelcjhjaaDoor.EqKit Go.Proofs.YtlleandelcjhjaaDoor.ArrKit Go.Proofs.YtlleandelcjhjaaDoor.HeldKit Go.Proofs.YtlleandelcjhjaaDoor.GKit Go.Proofs.YtlleandelcjhjaaDoor.GRow Go.Proofs.YtlleandelcjhjaaDoor.DiskKit Go.Proofs.YtlleandelcjhjaaDoor.RmKit Go.Proofs.YtlleandelcjhjaaDoor.MapKit Go.Proofs.YtlleandelcjhjaaDoor.RmRight Go.Proofs.YtlleandelcjhjaaDoor.DiskRRead Go.Proofs.YtlleandelcjhjaaDoor.ShaRot Go.Proofs.YtlleandelcjhjaaDoor.ShaSpread Go.Proofs.YtlleandelcjhjaaDoor.ShaStep Go.Proofs.YtlleandelcjhjaaDoor.ShaPlain Go.Proofs.YtlleandelcjhjaaDoor.ShaRef Go.Proofs.YtlleandelcjhjaaDoor.WordPut Go.Proofs.YtlleandelcjhjaaDoor.ShaSum Go.Proofs.YtlleandelcjhjaaDoor.RmTab
theorem info_l {l : List UInt8} (h : l.length = 128) : (Tryd.prog.info? 27).map (·.size) = some (l.map B).toArray.size := by rw [info_b, List.size_toArray, List.length_map, h]
theorem one_l (l : List UInt8) : (l.map B).toArray.all (·.oneCell') = true := by
  rw [Array.all_eq_true']
  intro v hv
  have hv : v ∈ l.map B := by simpa using hv
  obtain ⟨x, -, rfl⟩ := List.mem_map.1 hv
  rfl
theorem size_l {l : List UInt8} (h : l.length = 128) : ZB.size = (l.map B).toArray.size := by simp [h, ZB, Z128]
theorem zero_bl (W : World) : (zeroValue 27).run Tryd.prog W = .ok (.agg ZB) W := by kernel_rfl
theorem built_l0 : Tryd.prog.built 27 [(0, .int .u8 109)] = some (L0.map B).toArray := by kernel_rfl
theorem zero_32 (W : World) : (zeroValue 70).run Tryd.prog W = .ok (.agg Z32) W := by kernel_rfl
theorem wr_i (x : Int) (h0 : 0 ≤ x) (h1 : x ≤ 100000) : IntKind.i64.wrap x = x := by rw [IntKind.wrap_i64]; omega
/-- a number laid into 128 bytes -/
theorem wput_l {G p wd x : Nat} {l l' : List UInt8} (W : World) (hl : l.length = 128) (hp : p + wd ≤ 128) (hf : Fits x wd) (hx : x ≤ 9223372036854775807) (he : spl l p (le x wd) = l') (hb : Bk W G (l.map B).toArray 27) :
    Calls Tryd.prog 35 #[.slice (some ⟨G, 0, none⟩) 128 128, .int .i64 (p : Int), .int .i64 (wd : Int), .int .i64 (x : Int)] W fun e w' => e = .returned (.int .i64 0) ∧ Bk w' G (l'.map B).toArray 27 ∧ Fr (fun i => i = G) W w' := by
  refine (WordPut.put_ok G 0 128 128 p wd x _ 27 W hb (by omega) (by omega) (by omega) (by rw [List.size_toArray, List.length_map, hl]; omega) hx hp hf).mono ?_
  rintro e w' ⟨rfl, h1, h2⟩
  refine ⟨rfl, ?_, h2⟩
  rw [Nat.zero_add, lay_spl _ _ _ (by rw [le_length, hl]; exact hp), he] at h1
  exact h1
theorem fits2 {x : Nat} (h : x < 65536) : Fits (x : Int) ((2 : Nat) : Int) := by
  refine ⟨by omega, by omega, by omega, fun _ => ?_⟩
  show (x : Int) / 65536 ≤ 0
  omega
theorem fits1 {x : Nat} (h : x < 256) : Fits (x : Int) ((1 : Nat) : Int) := by
  refine ⟨by omega, by omega, by omega, fun _ => ?_⟩
  show (x : Int) / 256 ≤ 0
  omega
theorem fits8 (x : Nat) : Fits (x : Int) ((8 : Nat) : Int) := ⟨by omega, by omega, by omega, fun h => by omega⟩

set_option maxHeartbeats 2000000 in
set_option maxRecDepth 100000 in
theorem put_no (m : Rm) (a : Option Addr) (c : Nat) (s : Int) (w : World) (hok : m.ok) (hv : RV w m a c) (hs : (Lit.int .i64 s).wf = true) (ht : tabB m s = false) : Calls Tryd.prog 11 #[.agg (rval m a c), .int .i64 s] w fun e w' => e = .returned (.tuple #[.agg ZB, .int .i64 1]) ∧ Fr0 w w' := by
  have hz := zero_bl
  have hs1 : (w.alloc (.cells (rval m a c) 24)).heap.size = w.heap.size + 1 := by simp
  have HX : Hid (Bk ((w.alloc (.cells (rval m a c) 24)).alloc (.cells ZB 27)) w.heap.size (rval m a c) 24) := Lib.hid (Bk.alloc (Bk.new w _) _)
  have HR : Hid (Bk ((w.alloc (.cells (rval m a c) 24)).alloc (.cells ZB 27)) (w.heap.size + 1) ZB 27) := Lib.hid (by have := Bk.new (w.alloc (.cells (rval m a c) 24)) (.cells ZB 27); rwa [hs1] at this)
  have HF : Hid (Fr0 w ((w.alloc (.cells (rval m a c) 24)).alloc (.cells ZB 27))) := Lib.hid (Fr.alloc (Fr.alloc (Fr.refl _ _) _) _)
  have HRI : Hid (∀ W, Fr0 w W → Calls Tryd.prog 13 #[.agg (rval m a c), .int .i64 s] W fun e w' => e = .returned (.bool false) ∧ Fr0 W w') := Lib.hid (fun W f => by have := right_calls m a c s W hok (hv.keep f) hs; rwa [ht] at this)
  have HIN : Hid ((Tryd.prog.info? 24).map (·.size) = some (rval m a c).size) := Lib.hid (info_r _ _)
  clear hs1
  clear hok hv ht
  generalize rval m a c = X at *
  go_enter Tryd.func11, Tryd.ntmps11
  go_wp2_with (first | ((with_reducible show wpList _ _ _ ({ dst := _, op := Op.load 24 _, type := _, pos := _, after := _, guard := _ } :: _) _ _); refine wpList_load_row_g (by rfl) 24 _ rfl w.heap.size rfl 24 X (0, 0) _ HX.out Tryd.underlying24 rfl HIN.out ?_) | (go_at_call 13; (with_reducible refine (HRI.out _ HF.out).mono ?_); rintro e w2 ⟨rfl, hf2⟩; have HR2 := Lib.hid (hf2.keep HR.out (fun h => h)); have HX2 := Lib.hid (hf2.keep HX.out (fun h => h)); have HF2 := Lib.hid (HF.out.then0 hf2); clear hf2) | ((with_reducible show wpList _ _ _ ({ dst := _, op := Op.build 27 _, type := _, pos := _, after := _, guard := _ } :: _) _ _); refine build_ev rfl 27 _ rfl [] (by simp) ZB built_zb ?_) | ((with_reducible show wpList _ _ _ ({ dst := _, op := Op.store 27 _ _, type := _, pos := _, after := _, guard := _ } :: _) _ _); refine wpList_store_row rfl 27 _ _ rfl (w.heap.size + 1) ZB rfl rfl 27 ZB HR2.out info_zb rfl ZB_one ?_))
  refine fin_ct (w.heap.size + 1) 27 ZB (.int .i64 1) (by rfl) (by rfl) (by rfl) (by rfl) Tryd.underlying27 (by rfl) info_zb (ArrKit.Bk.row HR2.out _) ?_
  exact ⟨rfl, ArrKit.Fr.row HF2.out _ _ (.inl (by omega))⟩

set_option maxHeartbeats 2000000 in
set_option maxRecDepth 100000 in
theorem put_yes (m : Rm) (a : Option Addr) (c : Nat) (s : Int) (w : World) (hok : m.ok) (hv : RV w m a c) (hs : (Lit.int .i64 s).wf = true) (ht : tabB m s = true) (hsh : Sh w) : Calls Tryd.prog 11 #[.agg (rval m a c), .int .i64 s] w fun e w' => e = .returned (.tuple #[.agg ((tabL m).map B).toArray, .int .i64 0]) ∧ Fr0 w w' := by
  have hz := zero_bl
  have hs1 : (w.alloc (.cells (rval m a c) 24)).heap.size = w.heap.size + 1 := by simp
  have HX : Hid (Bk ((w.alloc (.cells (rval m a c) 24)).alloc (.cells ZB 27)) w.heap.size (rval m a c) 24) := Lib.hid (Bk.alloc (Bk.new w _) _)
  have HR : Hid (Bk ((w.alloc (.cells (rval m a c) 24)).alloc (.cells ZB 27)) (w.heap.size + 1) ZB 27) := Lib.hid (by have := Bk.new (w.alloc (.cells (rval m a c) 24)) (.cells ZB 27); rwa [hs1] at this)
  have HF : Hid (Fr0 w ((w.alloc (.cells (rval m a c) 24)).alloc (.cells ZB 27))) := Lib.hid (Fr.alloc (Fr.alloc (Fr.refl _ _) _) _)
  have HRI : Hid (∀ W, Fr0 w W → Calls Tryd.prog 13 #[.agg (rval m a c), .int .i64 s] W fun e w' => e = .returned (.bool true) ∧ Fr0 W w') := Lib.hid (fun W f => by have := right_calls m a c s W hok (hv.keep f) hs; rwa [ht] at this)
  have HIN : Hid ((Tryd.prog.info? 24).map (·.size) = some (rval m a c).size) := Lib.hid (info_r _ _)
  clear hs1
  have HV := Lib.hid hv
  have HSH := Lib.hid hsh
  have hpt := tab_parts ht
  have hlen := hpt.2.2.2.1
  have HPR : Hid (∀ i (hi : i < m.ps.length), ∃ f t : Nat, m.ps[i] = ((f : Int), (t : Int)) ∧ f < 4096 ∧ t < 4096) := Lib.hid (fun i hi => by
    have := tab_pair ht hi
    refine ⟨m.ps[i].1.toNat, m.ps[i].2.toNat, ?_, by omega, by omega⟩
    rw [Int.toNat_of_nonneg this.1, Int.toNat_of_nonneg this.2.2.1])
  obtain ⟨gn, hgn⟩ : ∃ gn : Nat, m.gen = (gn : Int) := ⟨m.gen.toNat, by omega⟩
  have HGN : Hid (m.gen.toNat = gn) := Lib.hid (by omega)
  have hgn2 : gn ≤ 4611686018427387904 := by omega
  have HW1 : Hid (∀ G W, Bk W G (L0.map B).toArray 27 → Calls Tryd.prog 35 #[.slice (some ⟨G, 0, none⟩) 128 128, .int .i64 1, .int .i64 8, .int .i64 (gn : Int)] W fun e w' => e = .returned (.int .i64 0) ∧ Bk w' G ((L1 m).map B).toArray 27 ∧ Fr (fun i => i = G) W w') := Lib.hid (fun G W h => wput_l (p := 1) (wd := 8) W L0_len (by omega) (fits8 gn) (by omega) (by have := stepGen m; rwa [HGN.out] at this) h)
  have HW2 : Hid (∀ G W, Bk W G ((L1 m).map B).toArray 27 → Calls Tryd.prog 35 #[.slice (some ⟨G, 0, none⟩) 128 128, .int .i64 9, .int .i64 1, .int .i64 (m.ps.length : Int)] W fun e w' => e = .returned (.int .i64 0) ∧ Bk w' G ((bodyB m 0).map B).toArray 27 ∧ Fr (fun i => i = G) W w') := Lib.hid (fun G W h => wput_l (p := 9) (wd := 1) W (L1_len m) (by omega) (fits1 (by omega)) (by omega) (stepLen m) h)
  have HP0 : Hid ((rval m a c)[0]? = some (.int .i64 (gn : Int))) := Lib.hid (by show some (Value.int .i64 m.gen) = _; rw [hgn])
  have HP1 : Hid ((rval m a c)[1]? = some (.slice a m.ps.length c)) := Lib.hid rfl
  clear hok hv ht hgn hpt hsh
  generalize rval m a c = X at *
  go_enter Tryd.func11, Tryd.ntmps11
  go_wp2_with (first | ((with_reducible show wpList _ _ _ ({ dst := _, op := Op.load 24 _, type := _, pos := _, after := _, guard := _ } :: _) _ _); refine wpList_load_row_g (by rfl) 24 _ rfl w.heap.size rfl 24 X (0, 0) _ HX.out Tryd.underlying24 rfl HIN.out ?_) | (go_at_call 13; (with_reducible refine (HRI.out _ HF.out).mono ?_); rintro e w2 ⟨rfl, hf2⟩; have HR2 := Lib.hid (hf2.keep HR.out (fun h => h)); have HX2 := Lib.hid (hf2.keep HX.out (fun h => h)); have HF2 := Lib.hid (HF.out.then0 hf2); have HZ2 := Lib.hid (Bk.new w2 (.cells ZB 27)); clear hf2) | ((with_reducible show wpList _ _ _ ({ dst := _, op := Op.build 27 _, type := _, pos := _, after := _, guard := _ } :: _) _ _); refine build_ev rfl 27 _ rfl [(0, .int .u8 109)] (by simp [Act.eval, Act.put]) (L0.map B).toArray built_l0 ?_) | ((with_reducible show wpList _ _ _ ({ dst := _, op := Op.store 27 _ _, type := _, pos := _, after := _, guard := _ } :: _) _ _); refine wpList_store_row rfl 27 _ _ rfl w2.heap.size (L0.map B).toArray rfl rfl 27 ZB HZ2.out (info_l L0_len) (size_l L0_len) (one_l _) ?_))
  have hft : Fr0 w2 ((w2.alloc (.cells ZB 27)).setRow w2.heap.size (L0.map B).toArray) := ArrKit.Fr.row (Fr.alloc (Fr.refl _ _) _) _ _ (.inl (Nat.le_refl _))
  have HG3 : Hid (Bk ((w2.alloc (.cells ZB 27)).setRow w2.heap.size (L0.map B).toArray) w2.heap.size (L0.map B).toArray 27) := Lib.hid (ArrKit.Bk.row HZ2.out _)
  have HX3 := Lib.hid (hft.keep HX2.out (fun h => h))
  have HR3 := Lib.hid (hft.keep HR2.out (fun h => h))
  have HF3 := Lib.hid (HF2.out.then0 hft)
  have hG1 : w.heap.size + 1 < w2.heap.size := Bk.lt HR2.out
  clear hft HX2 HR2 HF2 HZ2 HX HR HF HRI HIN
  generalize ((w2.alloc (.cells ZB 27)).setRow w2.heap.size (L0.map B).toArray) = w3 at *
  generalize w2.heap.size = G at *
  have c0 : w3.cell? ⟨w.heap.size, 0, none⟩ = some (.int .i64 (gn : Int)) := (Bk.cell HX3.out 0).trans HP0.out
  go_still_tail 3, (by kernel_rfl)
  change wpList _ _ _ _ _ w3.drew
  have HG4 := HG3
  have HX4 := HX3
  have HR4 := HR3
  have HF4 : Hid (Fr0 w w3.drew) := Lib.hid (Fr.drew HF3.out)
  clear HG3 HX3 HR3 HF3
  change wpList _ _ _ _ _ w3.drew
  change Hid (Bk w3.drew _ _ _) at HG4 HX4 HR4
  generalize w3.drew = w4 at *
  go_wp2_with (first | (go_at_call 35; (with_reducible refine (HW1.out G _ HG4.out).mono ?_); rintro e w5 ⟨rfl, hb_, hf_⟩; have HG5 := Lib.hid hb_; have HX5 := Lib.hid (hf_.keep HX4.out (by omega)); have HR5 := Lib.hid (hf_.keep HR4.out (by omega)); have HF5 : Hid (Fr0 w w5) := Lib.hid (Fr.newG HF4.out hf_ (by omega)); clear hb_ hf_))
  have c1 : w5.cell? ⟨w.heap.size, 1, none⟩ = some (.slice a m.ps.length c) := (Bk.cell HX5.out 1).trans HP1.out
  go_still_tail 4, (by kernel_rfl)
  change wpList _ _ _ _ _ w5.drew
  have HG6 := HG5
  have HX6 := HX5
  have HR6 := HR5
  have HF6 : Hid (Fr0 w w5.drew) := Lib.hid (Fr.drew HF5.out)
  clear HG5 HX5 HR5 HF5
  change wpList _ _ _ _ _ w5.drew
  change Hid (Bk w5.drew _ _ _) at HG6 HX6 HR6
  generalize w5.drew = w6 at *
  go_wp2_with (first | (go_at_call 35; (with_reducible refine (HW2.out G _ HG6.out).mono ?_); rintro e w7 ⟨rfl, hb_, hf_⟩; have HG7 := Lib.hid hb_; have HX7 := Lib.hid (hf_.keep HX6.out (by omega)); have HR7 := Lib.hid (hf_.keep HR6.out (by omega)); have HF7 : Hid (Fr0 w w7) := Lib.hid (Fr.newG HF6.out hf_ (by omega)); have c17 : w7.cell? ⟨w.heap.size, 1, none⟩ = some (.slice a m.ps.length c) := (Bk.cell HX7.out 1).trans HP1.out; clear hb_ hf_))
  have hzp := zero_pr
  go_loopw [28] (fun jj W => ∃ j : Nat, j ≤ m.ps.length ∧ jj = .int .i64 j ∧ Bk W G ((bodyB m j).map B).toArray 27 ∧ Bk W w.heap.size X 24 ∧ Bk W (w.heap.size + 1) ZB 27 ∧ Fr0 w W) (fun jj _ => m.ps.length - (intOf jj).toNat)
  case atStart => exact ⟨0, Nat.zero_le _, rfl, HG7.out, HX7.out, HR7.out, HF7.out⟩
  case round =>
    obtain ⟨j, hj, rfl, hg, hx, hr, hF⟩ := hrel
    by_cases hjl : j < m.ps.length
    · obtain ⟨b2, o2, rfl, hat⟩ := RdP.form HV.out.rd hjl
      have HRG := Lib.hid (hat _ (HV.out.rd.keep hF)).1
      obtain ⟨f, t, hft, hf1, hf2⟩ := HPR.out j hjl
      have hs1 := step1 m m.ps[j].1 hj
      have hs2 := step2 m hjl
      rw [hft] at HRG hs1 hs2
      rw [Int.toNat_natCast] at hs1
      simp only [Int.toNat_natCast] at hs2
      have HWA : Hid (∀ W, Bk W G ((bodyB m j).map B).toArray 27 → Calls Tryd.prog 35 #[.slice (some ⟨G, 0, none⟩) 128 128, .int .i64 (10 + 4 * (j : Int)), .int .i64 2, .int .i64 (f : Int)] W fun e w' => e = .returned (.int .i64 0) ∧ Bk w' G ((halfB m j (f : Int)).map B).toArray 27 ∧ Fr (fun i => i = G) W w') := Lib.hid (fun W h => by have := wput_l (p := 10 + 4 * j) (wd := 2) W (bodyB_len m hj hlen) (by omega) (fits2 (by omega)) (by omega) hs1 h; rwa [show ((10 + 4 * j : Nat) : Int) = 10 + 4 * (j : Int) by omega] at this)
      have HWB : Hid (∀ W, Bk W G ((halfB m j (f : Int)).map B).toArray 27 → Calls Tryd.prog 35 #[.slice (some ⟨G, 0, none⟩) 128 128, .int .i64 (10 + 4 * (j : Int) + 2), .int .i64 2, .int .i64 (t : Int)] W fun e w' => e = .returned (.int .i64 0) ∧ Bk w' G ((bodyB m (j + 1)).map B).toArray 27 ∧ Fr (fun i => i = G) W w') := Lib.hid (fun W h => by have := wput_l (p := 12 + 4 * j) (wd := 2) W (halfB_len m _ hj hlen) (by omega) (fits2 (by omega)) (by omega) hs2 h; rwa [show ((12 + 4 * j : Nat) : Int) = 10 + 4 * (j : Int) + 2 by omega] at this)
      have hf6 : Fr0 wr ((wr.alloc (.cells PZ2 69)).setRow wr.heap.size (PR ((f : Int), (t : Int))).toArray) := ArrKit.Fr.row (Fr.alloc (Fr.refl _ _) _) _ _ (.inl (Nat.le_refl _))
      have HZR := Lib.hid (Bk.new wr (.cells PZ2 69))
      have HB1 := Lib.hid (ArrKit.Bk.row HZR.out (PR ((f : Int), (t : Int))).toArray)
      have HF1 := Lib.hid (hF.then0 hf6)
      have HX1 := Lib.hid (hf6.keep hx (fun h => h))
      have HR1 := Lib.hid (hf6.keep hr (fun h => h))
      have HG1 := Lib.hid (hf6.keep hg (fun h => h))
      have hgp : G < wr.heap.size := Bk.lt hg
      clear hat hg hx hr hF hf6 hft hs1 hs2
      go_wp2_with (first | ((with_reducible show wpList _ _ _ ({ dst := _, op := Op.load 69 _, type := _, pos := _, after := _, guard := _ } :: _) _ _); refine wpList_load_mid rfl 69 _ rfl b2 (o2 + j * 2) rfl (PR ((f : Int), (t : Int))) _ HRG.out Tryd.underlying69 rfl (info_pr _) ?_) | ((with_reducible show wpList _ _ _ ({ dst := _, op := Op.store 69 _ _, type := _, pos := _, after := _, guard := _ } :: _) _ _); refine wpList_store_row rfl 69 _ _ rfl wr.heap.size (PR ((f : Int), (t : Int))).toArray rfl rfl 69 PZ2 HZR.out (info_pr2 _) rfl (PR_all _) ?_))
      clear HZR
      generalize (wr.alloc (.cells PZ2 69)).setRow wr.heap.size (PR ((f : Int), (t : Int))).toArray = w1 at *
      generalize wr.heap.size = gp at *
      have d0 : w1.cell? ⟨gp, 0, none⟩ = some (.int .i64 (f : Int)) := (Bk.cell HB1.out 0).trans (PR_0 _ _)
      have hw4 : IntKind.i64.wrap (4 * (j : Int)) = 4 * (j : Int) := wr_i _ (by omega) (by omega)
      have hw10 : IntKind.i64.wrap (10 + 4 * (j : Int)) = 10 + 4 * (j : Int) := wr_i _ (by omega) (by omega)
      have hw12 : IntKind.i64.wrap (10 + 4 * (j : Int) + 2) = 10 + 4 * (j : Int) + 2 := wr_i _ (by omega) (by omega)
      go_still_tail 6, (by kernel_rfl)
      change wpList _ _ _ _ _ w1.drew
      have HBd : Hid (Bk w1.drew gp (PR ((f : Int), (t : Int))).toArray 69) := Lib.hid HB1.out
      have HGd : Hid (Bk w1.drew G ((bodyB m j).map B).toArray 27) := Lib.hid HG1.out
      have HXd : Hid (Bk w1.drew w.heap.size X 24) := Lib.hid HX1.out
      have HRd : Hid (Bk w1.drew (w.heap.size + 1) ZB 27) := Lib.hid HR1.out
      have HFd : Hid (Fr0 w w1.drew) := Lib.hid (Fr.drew HF1.out)
      clear HB1 HG1 HX1 HR1 HF1 d0
      generalize w1.drew = wd at *
      go_wp2_with (first | (go_at_call 35; (with_reducible refine (HWA.out  _ HGd.out).mono ?_); rintro e we ⟨rfl, hb_, hf_⟩; have HGe := Lib.hid hb_; have HXe := Lib.hid (hf_.keep HXd.out (by omega)); have HRe := Lib.hid (hf_.keep HRd.out (by omega)); have HBe := Lib.hid (hf_.keep HBd.out (by omega)); have HFe : Hid (Fr0 w we) := Lib.hid (Fr.newG HFd.out hf_ (by omega)); have d1 : we.cell? ⟨gp, 1, none⟩ = some (.int .i64 (t : Int)) := (Bk.cell HBe.out 1).trans (PR_1 _ _); clear hb_ hf_))
      go_still_tail 7, (by kernel_rfl)
      change wpList _ _ _ _ _ we.drew
      have HGg : Hid (Bk we.drew G ((halfB m j (f : Int)).map B).toArray 27) := Lib.hid HGe.out
      have HXg : Hid (Bk we.drew w.heap.size X 24) := Lib.hid HXe.out
      have HRg : Hid (Bk we.drew (w.heap.size + 1) ZB 27) := Lib.hid HRe.out
      have HFg : Hid (Fr0 w we.drew) := Lib.hid (Fr.drew HFe.out)
      clear HGe HXe HRe HFe HBe HBd HGd HXd HRd HFd d1
      generalize we.drew = wg at *
      go_wp2_with (first | (go_at_call 35; (with_reducible refine (HWB.out  _ HGg.out).mono ?_); rintro e wh ⟨rfl, hb_, hf_⟩; have HGh := Lib.hid hb_; have HXh := Lib.hid (hf_.keep HXg.out (by omega)); have HRh := Lib.hid (hf_.keep HRg.out (by omega)); have HFh : Hid (Fr0 w wh) := Lib.hid (Fr.newG HFg.out hf_ (by omega)); clear hb_ hf_))
      go_roundw
      case rel => exact ⟨j + 1, by omega, by go_num, HGh.out, HXh.out, HRh.out, HFh.out⟩
      case measure => simp [intOf]; omega
    · have hje : j = m.ps.length := by omega
      subst hje
      have HG8 := Lib.hid hg
      have HX8 := Lib.hid hx
      have HR8 := Lib.hid hr
      have HF8 := Lib.hid hF
      have hbl := bodyB_len m (Nat.le_refl _) hlen
      have hhl := headB_len m hlen
      have HRD : Hid (Rd wr (some ⟨G, 0, none⟩) (headB m)) := Lib.hid (Rd.block hg (fun i hi => by
        rw [hhl] at hi
        rw [Nat.zero_add, List.getElem?_toArray, List.getElem?_map, List.getElem?_eq_getElem (by omega)]
        simp [headB]))
      have HSU : Hid (Calls Tryd.prog 36 #[.slice (some ⟨G, 0, none⟩) 96 128] wr fun e w' => e = .returned (.agg ((sumOf (headB m)).map B).toArray) ∧ Fr0 wr w') := Lib.hid (by
        obtain ⟨⟨t1, hk⟩, ⟨t2, hb⟩⟩ := HSH.out.keep0 hF
        exact ShaSum.sum_calls _ 96 128 (headB m) wr hhl HRD.out (by omega) hk hb)
      have HSL : Hid ((sumOf (headB m)).length = 32) := Lib.hid (sumOf_length _)
      have HST : Hid (spl (bodyB m m.ps.length) 96 (sumOf (headB m)) = tabL m) := Lib.hid (step_sum m hlen)
      have hz2 := zero_32
      have HI32 : Hid ((Tryd.prog.info? 70).map (·.size) = some ((sumOf (headB m)).map B).toArray.size ∧ Z32.size = ((sumOf (headB m)).map B).toArray.size) := Lib.hid (by rw [info32a, List.size_toArray, List.length_map, HSL.out]; exact ⟨rfl, rfl⟩)
      have HO32 := Lib.hid (one_l (sumOf (headB m)))
      clear hg hx hr hF HRD
      generalize sumOf (headB m) = sm at *
      go_wp2_with (first | (go_at_call 36; (with_reducible refine (HSU.out).mono ?_); rintro e w9 ⟨rfl, hf9⟩; have HZ9 := Lib.hid (Bk.new w9 (.cells Z32 70)); have HG9 := Lib.hid (hf9.keep HG8.out (fun h => h)); have HR9 := Lib.hid (hf9.keep HR8.out (fun h => h)); have HF9 := Lib.hid (HF8.out.then0 hf9); clear hf9) | ((with_reducible show wpList _ _ _ ({ dst := _, op := Op.store 70 _ _, type := _, pos := _, after := _, guard := _ } :: _) _ _); refine wpList_store_row rfl 70 _ _ rfl w9.heap.size (sm.map B).toArray rfl rfl 70 Z32 HZ9.out HI32.out.1 HI32.out.2 HO32.out ?_))
      have hfa : Fr0 w9 ((w9.alloc (.cells Z32 70)).setRow w9.heap.size (sm.map B).toArray) := ArrKit.Fr.row (Fr.alloc (Fr.refl _ _) _) _ _ (.inl (Nat.le_refl _))
      have HSa := Lib.hid (ArrKit.Bk.row HZ9.out (sm.map B).toArray)
      have HGa := Lib.hid (hfa.keep HG9.out (fun h => h))
      have HRa := Lib.hid (hfa.keep HR9.out (fun h => h))
      have HFa := Lib.hid (HF9.out.then0 hfa)
      clear hfa HZ9 HG9 HR9 HF9 HG8 HX8 HR8 HF8 HSU
      generalize (w9.alloc (.cells Z32 70)).setRow w9.heap.size (sm.map B).toArray = wa at *
      generalize w9.heap.size = gs at *
      go_still_tail 2, (by kernel_rfl)
      change wpList _ _ _ _ _ wa.drew
      have HC : Hid (∀ ty, (Builtin.copy_ #[67, 67] ty #[.slice (some ⟨G, 96, none⟩) 32 32, .slice (some ⟨gs, 0, none⟩) 32 32]).run Tryd.prog wa.drew = .ok (goInt (sm.map B).length) (wa.drew.setCells G 96 (sm.map B))) := Lib.hid fun ty => by
        have hbg : Bk wa.drew G _ 27 := Bk.drew HGa.out
        have hby : Bk wa.drew gs _ 70 := Bk.drew HSa.out
        have hl : (sm.map B).length = 32 := by rw [List.length_map, HSL.out]
        exact run_copy_cells wa.drew 67 67 ty 5 G 96 32 32 ⟨gs, 0, none⟩ 32 32 (sm.map B) Tryd.underlying67 (by kernel_rfl) (by rw [hl]; rfl) (fun j v hj => by rw [add_form, hby.cell, Nat.zero_add, List.getElem?_toArray]; exact hj) (fun j hj => by rw [hbg.cell, Array.getElem?_eq_getElem (by rw [List.size_toArray, List.length_map, hbl]; omega)]; rfl) (fun j hj => hbg.free _) (by intro v hv; obtain ⟨x, _, rfl⟩ := List.mem_map.1 hv; rfl)
      have HGb : Hid (Bk (wa.drew.setCells G 96 (sm.map B)) G ((tabL m).map B).toArray 27) := Lib.hid (by
        have := sets_bk (sm.map B) 96 _ _ (Bk.drew HGa.out)
        rwa [lay_spl _ _ _ (by rw [HSL.out, hbl]; omega), HST.out] at this)
      have HRb : Hid (Bk (wa.drew.setCells G 96 (sm.map B)) (w.heap.size + 1) ZB 27) := Lib.hid ((sets_fr (sm.map B) 96 wa.drew (Fr.refl (· = G) _)).keep (Bk.drew HRa.out) (by omega))
      have HFb : Hid (Fr0 w (wa.drew.setCells G 96 (sm.map B))) := Lib.hid (Fr.newG (Fr.drew HFa.out) (sets_fr (sm.map B) 96 wa.drew (Fr.refl (· = G) _)) (by omega))
      generalize hwb : wa.drew.setCells G 96 (sm.map B) = wb at *
      have HWB2 := Lib.hid hwb
      clear hwb
      have HTL := Lib.hid (tabL_len m hlen)
      go_wp2_with (first | (refine wpList_copy_run _ rfl _ _ 67 67 rfl _ _ rfl rfl (HC.out _) ?_) | ((with_reducible show wpList _ _ _ ({ dst := _, op := Op.load 27 _, type := _, pos := _, after := _, guard := _ } :: _) _ _); refine wpList_load_row_g (by rfl) 27 _ rfl G rfl 27 ((tabL m).map B).toArray (0, 0) _ HGb.out Tryd.underlying27 rfl (info_l HTL.out) ?_) | ((with_reducible show wpList _ _ _ ({ dst := _, op := Op.store 27 _ _, type := _, pos := _, after := _, guard := _ } :: _) _ _); refine wpList_store_row rfl 27 _ _ rfl (w.heap.size + 1) ((tabL m).map B).toArray rfl rfl 27 ZB HRb.out (info_l HTL.out) (size_l HTL.out) (one_l _) ?_))
      refine fin_ct (w.heap.size + 1) 27 ((tabL m).map B).toArray (.int .i64 0) (by rfl) (by rfl) (by rfl) (by rfl) Tryd.underlying27 (by rfl) (info_l HTL.out) (ArrKit.Bk.row HRb.out _) ?_
      exact ⟨rfl, ArrKit.Fr.row HFb.out _ _ (.inl (by omega))⟩
theorem put_calls (m : Rm) (a : Option Addr) (c : Nat) (s : Int) (w : World) (hok : m.ok) (hv : RV w m a c) (hs : (Lit.int .i64 s).wf = true) (hsh : Sh w) : Calls Tryd.prog 11 #[.agg (rval m a c), .int .i64 s] w fun e w' => e = .returned (.tuple #[.agg ((tabX m s).map B).toArray, .int .i64 (tabE m s)]) ∧ Fr0 w w' := by
  unfold tabX tabE
  cases ht : tabB m s with
  | false => exact put_no m a c s w hok hv hs ht
  | true => exact put_yes m a c s w hok hv hs ht hsh

end Go.Proofs.YtlleandelcjhjaaDoor.RmPut
namespace Go.Proofs.YtlleandelcjhjaaDoor.RmAsk
open Go Go.RowKit Go.Proofs.YtlleandelcjhjaaDoor.K Go.Proofs.YtlleandelcjhjaaDoor.EqKit Go.Proofs.YtlleandelcjhjaaDoor.ArrKit Go.Proofs.YtlleandelcjhjaaDoor.HeldKit Go.Proofs.YtlleandelcjhjaaDoor.GKit Go.Proofs.YtlleandelcjhjaaDoor.GRow Go.Proofs.YtlleandelcjhjaaDoor.DiskKit Go.Proofs.YtlleandelcjhjaaDoor.RmKit Go.Proofs.YtlleandelcjhjaaDoor.MapKit Go.Proofs.YtlleandelcjhjaaDoor.RmRight Go.Proofs.YtlleandelcjhjaaDoor.RmRRight Go.Proofs.YtlleandelcjhjaaDoor.RmTab
def idxI (f : Int × Int → Bool) (l : List (Int × Int)) : Int := if l.findIdx f < l.length then (l.findIdx f : Int) else -1
theorem idxI_at {f : Int × Int → Bool} {l : List (Int × Int)} {k : Nat} (hk : k < l.length) (h : f l[k] = true) (hn : ∀ q (hq : q < k), f (l[q]'(by omega)) = false) : idxI f l = k := by
  have e : l.findIdx f = k := by
    rw [List.findIdx_eq hk]
    exact ⟨h, fun q hq => by simpa using hn q hq⟩
  unfold idxI
  rw [e, if_pos hk]
theorem idxI_no {f : Int × Int → Bool} {l : List (Int × Int)} (hn : ∀ q (hq : q < l.length), f l[q] = false) : idxI f l = -1 := by
  have e : l.findIdx f = l.length := by
    rw [List.findIdx_eq_length]
    intro x hx
    obtain ⟨q, hq, rfl⟩ := List.mem_iff_getElem.1 hx
    exact hn q hq
  unfold idxI
  rw [e, if_neg (Nat.lt_irrefl _)]
theorem idxI_cases (f : Int × Int → Bool) (l : List (Int × Int)) : (idxI f l = -1 ∧ ∀ x ∈ l, f x = false) ∨ ∃ k : Nat, ∃ hk : k < l.length, idxI f l = k ∧ f l[k] = true ∧ ∀ q (hq : q < k), f (l[q]'(by omega)) = false := by
  by_cases h : l.findIdx f < l.length
  · refine .inr ⟨l.findIdx f, h, by unfold idxI; rw [if_pos h], List.findIdx_getElem, fun q hq => ?_⟩
    have := List.not_of_lt_findIdx hq
    simpa using this
  · refine .inl ⟨by unfold idxI; rw [if_neg h], fun x hx => ?_⟩
    have e : l.findIdx f = l.length := Nat.le_antisymm List.findIdx_le_length (by omega)
    have := (List.findIdx_eq_length.1 e) x hx
    simpa using this

set_option maxHeartbeats 2000000 in
set_option maxRecDepth 100000 in
theorem pclo_calls (p : Int × Int) (bx : Nat) (n : Int) (w : World) (hb : Bk w bx #[.int .i64 n] 3) : Calls Tryd.prog 69 #[.agg (PR p).toArray, .pointer (some ⟨bx, 0, none⟩)] w fun e w' => e = .returned (.bool (p.1 == n)) ∧ Fr0 w w' := by
  have hb2 : Bk (w.alloc (.cells (PR p).toArray 69)) bx #[.int .i64 n] 3 := Bk.alloc hb _
  have c0 : (w.alloc (.cells (PR p).toArray 69)).cell? ⟨w.heap.size, 0, none⟩ = some (.int .i64 p.1) := (Bk.cell (Bk.new w _) 0).trans (PR_0 p.1 p.2)
  have c1 : (w.alloc (.cells (PR p).toArray 69)).cell? ⟨bx, 0, none⟩ = some (.int .i64 n) := Bk.cell hb2 0
  have hP : (PR p).toArray[0]? = some (.int .i64 p.1) := PR_0 p.1 p.2
  generalize (PR p).toArray = Y at *
  generalize p.1 = q at *
  clear hb hb2
  go_enter Tryd.func69, Tryd.ntmps69
  go_wp2
  go_ret
  exact ⟨rfl, Fr.alloc (Fr.refl _ _) _⟩

set_option maxHeartbeats 2000000 in
set_option maxRecDepth 100000 in
theorem sclo_calls (p : Int × Int) (bx : Nat) (n : Int) (w : World) (hb : Bk w bx #[.int .i64 n] 3) : Calls Tryd.prog 76 #[.agg (PR p).toArray, .pointer (some ⟨bx, 0, none⟩)] w fun e w' => e = .returned (.bool (p.2 == n)) ∧ Fr0 w w' := by
  have hb2 : Bk (w.alloc (.cells (PR p).toArray 69)) bx #[.int .i64 n] 3 := Bk.alloc hb _
  have c0 : (w.alloc (.cells (PR p).toArray 69)).cell? ⟨w.heap.size, 1, none⟩ = some (.int .i64 p.2) := (Bk.cell (Bk.new w _) 1).trans (PR_1 p.1 p.2)
  have c1 : (w.alloc (.cells (PR p).toArray 69)).cell? ⟨bx, 0, none⟩ = some (.int .i64 n) := Bk.cell hb2 0
  have hP : (PR p).toArray[1]? = some (.int .i64 p.2) := PR_1 p.1 p.2
  generalize (PR p).toArray = Y at *
  generalize p.2 = q at *
  clear hb hb2
  go_enter Tryd.func76, Tryd.ntmps76
  go_wp2
  go_ret
  exact ⟨rfl, Fr.alloc (Fr.refl _ _) _⟩

set_option maxHeartbeats 2000000 in
set_option maxRecDepth 100000 in
theorem pidx_calls (l : List (Int × Int)) (a : Option Addr) (c bx : Nat) (n : Int) (w : World) (hr : RdP w a l) (hlen : l.length ≤ 8796093022208) (hb : Bk w bx #[.int .i64 n] 3) : Calls Tryd.prog 68 #[.slice a l.length c, .func (Fn.func 69) #[] #[.pointer (some ⟨bx, 0, none⟩)]] w fun e w' => e = .returned (.int .i64 (idxI (fun p => p.1 == n) l)) ∧ Fr0 w w' := by
  have HRD := Lib.hid hr
  have HB := Lib.hid hb
  clear hr hb
  go_enter Tryd.func68, Tryd.ntmps68
  go_wp2
  go_loopw [8] (fun jj W => ∃ j : Nat, j ≤ l.length ∧ jj = .int .i64 j ∧ (∀ q (hq : q < j) (hq2 : q < l.length), (l[q].1 == n) = false) ∧ Fr0 w W) (fun jj _ => l.length - (intOf jj).toNat)
  case atStart => exact ⟨0, Nat.zero_le _, rfl, fun q hq => by omega, Fr.refl _ _⟩
  case round =>
    obtain ⟨j, hj, rfl, hno, hF⟩ := hrel
    have HNO := Lib.hid hno
    have HF := Lib.hid hF
    clear hno hF
    by_cases hjl : j < l.length
    · obtain ⟨b2, o2, rfl, hat⟩ := RdP.form HRD.out hjl
      have HRG := Lib.hid (hat _ (HRD.out.keep HF.out)).1
      have HCL := Lib.hid (pclo_calls l[j] bx n wr (HF.out.keep HB.out (fun h => h)))
      have HQ : Hid (∀ v, (l[j].1 == n) = v → (l[j].1 == n) = v) := Lib.hid (fun v h => h)
      clear hat
      cases hv : (l[j].1 == n) with
      | true =>
        have HI := Lib.hid (idxI_at (f := fun p => p.1 == n) hjl hv (fun q hq => HNO.out q hq (by omega)))
        rw [hv] at HCL
        clear hv HQ
        generalize l[j] = p at *
        go_wp2_with (first | ((with_reducible show wpList _ _ _ ({ dst := _, op := Op.load 69 _, type := _, pos := _, after := _, guard := _ } :: _) _ _); refine wpList_load_mid rfl 69 _ rfl b2 (o2 + j * 2) rfl (PR p) _ HRG.out Tryd.underlying69 rfl (info_pr _) ?_) | (go_at_call 69; (with_reducible refine (HCL.out).mono ?_); rintro e w7 ⟨rfl, hf7⟩; have HF7 := Lib.hid (HF.out.then0 hf7); clear hf7))
        go_ret
        exact ⟨by rw [HI.out]; rfl, HF7.out⟩
      | false =>
        have HV := Lib.hid hv
        rw [hv] at HCL
        clear hv HQ
        generalize hp : l[j] = p at *
        have HP := Lib.hid hp
        clear hp
        go_wp2_with (first | ((with_reducible show wpList _ _ _ ({ dst := _, op := Op.load 69 _, type := _, pos := _, after := _, guard := _ } :: _) _ _); refine wpList_load_mid rfl 69 _ rfl b2 (o2 + j * 2) rfl (PR p) _ HRG.out Tryd.underlying69 rfl (info_pr _) ?_) | (go_at_call 69; (with_reducible refine (HCL.out).mono ?_); rintro e w7 ⟨rfl, hf7⟩; have HF7 := Lib.hid (HF.out.then0 hf7); clear hf7))
        go_roundw
        case rel => exact ⟨j + 1, by omega, by go_num, fun q hq hq2 => by
            rcases Nat.lt_or_ge q j with h | h
            · exact HNO.out q h hq2
            · obtain rfl : q = j := by omega
              rw [HP.out]; exact HV.out, HF7.out⟩
        case measure => simp [intOf]; omega
    · have HI := Lib.hid (idxI_no (f := fun p => p.1 == n) (l := l) (fun q hq => HNO.out q (by omega) hq))
      go_wp2
      go_ret
      exact ⟨by rw [HI.out]; rfl, HF.out⟩

set_option maxHeartbeats 2000000 in
set_option maxRecDepth 100000 in
theorem sidx_calls (l : List (Int × Int)) (a : Option Addr) (c bx : Nat) (n : Int) (w : World) (hr : RdP w a l) (hlen : l.length ≤ 8796093022208) (hb : Bk w bx #[.int .i64 n] 3) : Calls Tryd.prog 68 #[.slice a l.length c, .func (Fn.func 76) #[] #[.pointer (some ⟨bx, 0, none⟩)]] w fun e w' => e = .returned (.int .i64 (idxI (fun p => p.2 == n) l)) ∧ Fr0 w w' := by
  have HRD := Lib.hid hr
  have HB := Lib.hid hb
  clear hr hb
  go_enter Tryd.func68, Tryd.ntmps68
  go_wp2
  go_loopw [8] (fun jj W => ∃ j : Nat, j ≤ l.length ∧ jj = .int .i64 j ∧ (∀ q (hq : q < j) (hq2 : q < l.length), (l[q].2 == n) = false) ∧ Fr0 w W) (fun jj _ => l.length - (intOf jj).toNat)
  case atStart => exact ⟨0, Nat.zero_le _, rfl, fun q hq => by omega, Fr.refl _ _⟩
  case round =>
    obtain ⟨j, hj, rfl, hno, hF⟩ := hrel
    have HNO := Lib.hid hno
    have HF := Lib.hid hF
    clear hno hF
    by_cases hjl : j < l.length
    · obtain ⟨b2, o2, rfl, hat⟩ := RdP.form HRD.out hjl
      have HRG := Lib.hid (hat _ (HRD.out.keep HF.out)).1
      have HCL := Lib.hid (sclo_calls l[j] bx n wr (HF.out.keep HB.out (fun h => h)))
      have HQ : Hid (∀ v, (l[j].2 == n) = v → (l[j].2 == n) = v) := Lib.hid (fun v h => h)
      clear hat
      cases hv : (l[j].2 == n) with
      | true =>
        have HI := Lib.hid (idxI_at (f := fun p => p.2 == n) hjl hv (fun q hq => HNO.out q hq (by omega)))
        rw [hv] at HCL
        clear hv HQ
        generalize l[j] = p at *
        go_wp2_with (first | ((with_reducible show wpList _ _ _ ({ dst := _, op := Op.load 69 _, type := _, pos := _, after := _, guard := _ } :: _) _ _); refine wpList_load_mid rfl 69 _ rfl b2 (o2 + j * 2) rfl (PR p) _ HRG.out Tryd.underlying69 rfl (info_pr _) ?_) | (go_at_call 76; (with_reducible refine (HCL.out).mono ?_); rintro e w7 ⟨rfl, hf7⟩; have HF7 := Lib.hid (HF.out.then0 hf7); clear hf7))
        go_ret
        exact ⟨by rw [HI.out]; rfl, HF7.out⟩
      | false =>
        have HV := Lib.hid hv
        rw [hv] at HCL
        clear hv HQ
        generalize hp : l[j] = p at *
        have HP := Lib.hid hp
        clear hp
        go_wp2_with (first | ((with_reducible show wpList _ _ _ ({ dst := _, op := Op.load 69 _, type := _, pos := _, after := _, guard := _ } :: _) _ _); refine wpList_load_mid rfl 69 _ rfl b2 (o2 + j * 2) rfl (PR p) _ HRG.out Tryd.underlying69 rfl (info_pr _) ?_) | (go_at_call 76; (with_reducible refine (HCL.out).mono ?_); rintro e w7 ⟨rfl, hf7⟩; have HF7 := Lib.hid (HF.out.then0 hf7); clear hf7))
        go_roundw
        case rel => exact ⟨j + 1, by omega, by go_num, fun q hq hq2 => by
            rcases Nat.lt_or_ge q j with h | h
            · exact HNO.out q h hq2
            · obtain rfl : q = j := by omega
              rw [HP.out]; exact HV.out, HF7.out⟩
        case measure => simp [intOf]; omega
    · have HI := Lib.hid (idxI_no (f := fun p => p.2 == n) (l := l) (fun q hq => HNO.out q (by omega) hq))
      go_wp2
      go_ret
      exact ⟨by rw [HI.out]; rfl, HF.out⟩

theorem idxI_ge (f : Int × Int → Bool) (l : List (Int × Int)) : decide (0 ≤ idxI f l) = l.any f := by
  rcases idxI_cases f l with ⟨h1, h2⟩ | ⟨k, hk, h1, h2, h3⟩
  · rw [h1, decide_eq_false (by omega)]
    symm
    rw [List.any_eq_false]
    exact fun x hx => by simp [h2 x hx]
  · rw [h1, decide_eq_true (by omega)]
    symm
    rw [List.any_eq_true]
    exact ⟨_, List.getElem_mem hk, h2⟩
set_option maxHeartbeats 2000000 in
set_option maxRecDepth 100000 in
theorem scont_calls (l : List (Int × Int)) (a : Option Addr) (c bx : Nat) (n : Int) (w : World) (hr : RdP w a l) (hlen : l.length ≤ 8796093022208) (hb : Bk w bx #[.int .i64 n] 3) : Calls Tryd.prog 75 #[.slice a l.length c, .func (Fn.func 76) #[] #[.pointer (some ⟨bx, 0, none⟩)]] w fun e w' => e = .returned (.bool (l.any (fun p => p.2 == n))) ∧ Fr0 w w' := by
  have HI := Lib.hid (sidx_calls l a c bx n w hr hlen hb)
  have HG := Lib.hid (idxI_ge (fun p => p.2 == n) l)
  clear hr hlen hb
  generalize idxI (fun p => p.2 == n) l = r at *
  go_enter Tryd.func75, Tryd.ntmps75
  go_wp2_with (go_at_call 68; (with_reducible refine HI.out.mono ?_); rintro e w1 ⟨rfl, hf⟩; have HF1 := Lib.hid hf; clear hf)
  go_ret
  exact ⟨by rw [← HG.out]; rfl, HF1.out⟩
/-- the place of a sector's pair -/
def plc (m : Rm) (n : Int) : Int := idxI (fun p => p.1 == n) m.ps
set_option maxHeartbeats 2000000 in
set_option maxRecDepth 100000 in
theorem place_calls (m : Rm) (a : Option Addr) (c : Nat) (n : Int) (w : World) (hv : RV w m a c) (hlen : m.ps.length ≤ 8796093022208) : Calls Tryd.prog 41 #[.agg (rval m a c), .int .i64 n] w fun e w' => e = .returned (.int .i64 (plc m n)) ∧ Fr0 w w' := by
  have hs1 : (w.alloc (.cells (rval m a c) 24)).heap.size = w.heap.size + 1 := by simp
  have hx : Bk ((w.alloc (.cells (rval m a c) 24)).alloc (.cells #[.int .i64 n] 3)) w.heap.size (rval m a c) 24 := Bk.alloc (Bk.new w _) _
  have c1 : ((w.alloc (.cells (rval m a c) 24)).alloc (.cells #[.int .i64 n] 3)).cell? ⟨w.heap.size, 1, none⟩ = some (.slice a m.ps.length c) := Bk.cell hx 1
  have hp1 : (rval m a c)[1]? = some (.slice a m.ps.length c) := rfl
  have HB : Hid (Bk ((w.alloc (.cells (rval m a c) 24)).alloc (.cells #[.int .i64 n] 3)) (w.heap.size + 1) #[.int .i64 n] 3) := Lib.hid (by have := Bk.new (w.alloc (.cells (rval m a c) 24)) (.cells #[.int .i64 n] 3); rwa [hs1] at this)
  have HF : Hid (Fr0 w ((w.alloc (.cells (rval m a c) 24)).alloc (.cells #[.int .i64 n] 3))) := Lib.hid (Fr.alloc (Fr.alloc (Fr.refl _ _) _) _)
  have HI := Lib.hid (pidx_calls m.ps a c (w.heap.size + 1) n _ (hv.rd.keep HF.out) hlen HB.out)
  have HPL : Hid (plc m n = idxI (fun p => p.1 == n) m.ps) := Lib.hid rfl
  clear hx hs1 hv
  generalize rval m a c = X at *
  generalize idxI (fun p => p.1 == n) m.ps = r at *
  rw [HPL.out]
  go_enter Tryd.func41, Tryd.ntmps41
  go_wp2_with (go_at_call 68; (with_reducible refine HI.out.mono ?_); rintro e w1 ⟨rfl, hf⟩; have HF1 := Lib.hid (HF.out.then0 hf); clear hf)
  go_ret
  exact ⟨rfl, HF1.out⟩
/-- the sector that stands for another one -/
def atI (m : Rm) (n : Int) : Int := match m.ps.find? (fun p => p.1 == n) with | some p => p.2 | none => n
theorem atI_no {m : Rm} {n : Int} (h : ∀ x ∈ m.ps, (x.1 == n) = false) : atI m n = n := by
  unfold atI
  rw [List.find?_eq_none.2 (fun x hx => by simp [h x hx])]
theorem atI_at {m : Rm} {n : Int} {k : Nat} (hk : k < m.ps.length) (h : (m.ps[k].1 == n) = true) (hn : ∀ q (hq : q < k), ((m.ps[q]'(by omega)).1 == n) = false) : atI m n = m.ps[k].2 := by
  unfold atI
  have e : m.ps.find? (fun p => p.1 == n) = some m.ps[k] := by
    rw [List.find?_eq_some_iff_getElem]
    exact ⟨h, k, hk, rfl, fun q hq => by simpa using hn q hq⟩
  rw [e]
set_option maxHeartbeats 2000000 in
set_option maxRecDepth 100000 in
theorem at_calls (m : Rm) (a : Option Addr) (c : Nat) (n : Int) (w : World) (hv : RV w m a c) (hlen : m.ps.length ≤ 8796093022208) : Calls Tryd.prog 15 #[.agg (rval m a c), .int .i64 n] w fun e w' => e = .returned (.int .i64 (atI m n)) ∧ Fr0 w w' := by
  have hx : Bk (w.alloc (.cells (rval m a c) 24)) w.heap.size (rval m a c) 24 := Bk.new w _
  have HX := Lib.hid hx
  have HF : Hid (Fr0 w (w.alloc (.cells (rval m a c) 24))) := Lib.hid (Fr.alloc (Fr.refl _ _) _)
  have HI := Lib.hid (place_calls m a c n _ (hv.keep HF.out) hlen)
  have HIN : Hid ((Tryd.prog.info? 24).map (·.size) = some (rval m a c).size) := Lib.hid (info_r _ _)
  have HP1 : Hid ((rval m a c)[1]? = some (.slice a m.ps.length c)) := Lib.hid rfl
  have HV := Lib.hid hv
  clear hx hv
  rcases idxI_cases (fun p => p.1 == n) m.ps with ⟨h1, h2⟩ | ⟨k, hk, h1, h2, h3⟩
  · rw [show plc m n = -1 from h1] at HI
    rw [atI_no h2]
    clear h1 h2
    generalize rval m a c = X at *
    go_enter Tryd.func15, Tryd.ntmps15
    go_wp2_with (first | ((with_reducible show wpList _ _ _ ({ dst := _, op := Op.load 24 _, type := _, pos := _, after := _, guard := _ } :: _) _ _); refine wpList_load_row_g (by rfl) 24 _ rfl w.heap.size rfl 24 X (0, 0) _ HX.out Tryd.underlying24 rfl HIN.out ?_) | (go_at_call 41; (with_reducible refine HI.out.mono ?_); rintro e w1 ⟨rfl, hf⟩; have HF1 := Lib.hid (HF.out.then0 hf); clear hf))
    go_ret
    exact ⟨rfl, HF1.out⟩
  · rw [show plc m n = k from h1] at HI
    rw [atI_at hk h2 h3]
    obtain ⟨b2, o2, rfl, hat⟩ := RdP.form HV.out.rd hk
    have HAT := Lib.hid hat
    clear h1 h2 h3 hat
    generalize rval m (some ⟨b2, o2, none⟩) c = X at *
    go_enter Tryd.func15, Tryd.ntmps15
    go_wp2_with (first | ((with_reducible show wpList _ _ _ ({ dst := _, op := Op.load 24 _, type := _, pos := _, after := _, guard := _ } :: _) _ _); refine wpList_load_row_g (by rfl) 24 _ rfl w.heap.size rfl 24 X (0, 0) _ HX.out Tryd.underlying24 rfl HIN.out ?_) | (go_at_call 41; (with_reducible refine HI.out.mono ?_); rintro e w1 ⟨rfl, hf⟩; have HF1 := Lib.hid (HF.out.then0 hf); have cx : w1.cell? ⟨w.heap.size, 1, none⟩ = some (.slice (some ⟨b2, o2, none⟩) m.ps.length c) := (Bk.cell (hf.keep HX.out (fun h => h)) 1).trans HP1.out; have cq : w1.cell? ⟨b2, o2 + k * 2 + 1, none⟩ = some (.int .i64 m.ps[k].2) := (HAT.out _ (HV.out.rd.keep HF1.out)).2.2; clear hf))
    go_ret
    exact ⟨rfl, HF1.out⟩
end Go.Proofs.YtlleandelcjhjaaDoor.RmAsk
namespace Go.Proofs.YtlleandelcjhjaaDoor.DiskSame
open Go Go.RowKit Go.Proofs.YtlleandelcjhjaaDoor.K Go.Proofs.YtlleandelcjhjaaDoor.EqKit Go.Proofs.YtlleandelcjhjaaDoor.ArrKit Go.Proofs.YtlleandelcjhjaaDoor.HeldKit Go.Proofs.YtlleandelcjhjaaDoor.GKit Go.Proofs.YtlleandelcjhjaaDoor.GRow Go.Proofs.YtlleandelcjhjaaDoor.DiskKit Go.Proofs.YtlleandelcjhjaaDoor.DiskAsk Go.Proofs.YtlleandelcjhjaaDoor.DiskForm Go.Proofs.YtlleandelcjhjaaDoor.DiskAct Go.Proofs.YtlleandelcjhjaaDoor.DiskNew
theorem run_neq_op {P : Program} {o : Oper} {a : Act} {x y : Operand} {t u : TypeId} {X Y : Array Value} {b : Bool} (ho : o.op = .binOp .neq t x y u) (hx : a.eval x = .agg X) (hy : a.eval y = .agg Y) (hm : P.eqGuardType P.depth t = false)
    (heq : ∀ W, (Op.equalIn 10000 t (.agg X) (.agg Y)).run P W = .ok b W) (w : World) : (execOp a.eval o).run P w = .ok (.value (.bool (!b))) w := by
  unfold execOp
  simp only [ho, hx, hy, Sem.run_bind, run_neq_struct, heq, Result.andThen, Sem.run_pure, run_eqGuard_agg _ _ _ _ _ _ _ hm]
theorem cells_b : Tryd.prog.cellsOf 27 = 128 := by kernel_rfl
theorem cells_bo : Tryd.prog.cellsOf 4 = 1 := by kernel_rfl
theorem cells_i64 : Tryd.prog.cellsOf 3 = 1 := by kernel_rfl
theorem lits_i64 (d : Nat) {n : Int} (h : (Lit.int .i64 n).wf = true) : Tryd.prog.keyLits (d + 1) 3 [.int .i64 n] = some [Lit.int .i64 n] := by
  unfold Program.keyLits
  rw [Tryd.underlying3]
  simp [h]
theorem guard_b : Tryd.prog.eqGuardType Tryd.prog.depth 27 = false := by kernel_rfl
end Go.Proofs.YtlleandelcjhjaaDoor.DiskSame
