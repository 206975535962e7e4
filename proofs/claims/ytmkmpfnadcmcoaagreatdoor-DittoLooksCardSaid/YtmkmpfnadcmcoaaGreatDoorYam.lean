/- The theorems that the claim uses, text behind text (part 13). -/
import Derived.Test.YtmkmpfnadcmcoaaGreatDoorYal
set_option maxRecDepth 100000
set_option maxHeartbeats 8000000
set_option linter.unusedVariables false
set_option linter.unusedSimpArgs false
namespace Go.Proofs.YtmkmpfnadcmcoaaGreatDoor.RmPut
open Go Go.RowKit K EqKit ArrKit HeldKit GKit GRow DiskKit RmKit MapKit RmRight DiskRRead ShaRot ShaSpread ShaStep ShaPlain ShaRef WordPut ShaSum RmTab
theorem info_l {l : List UInt8} (h : l.length = 128) : (Tryz.prog.info? 36).map (·.size) = some (l.map B).toArray.size := by rw [info_b, List.size_toArray, List.length_map, h]
theorem one_l (l : List UInt8) : (l.map B).toArray.all (·.oneCell') = true := by
 rw [Array.all_eq_true']
 intro v hv
 have hv : v ∈ l.map B := by simpa using hv
 obtain ⟨x, -, rfl⟩ := List.mem_map.1 hv
 rfl
theorem size_l {l : List UInt8} (h : l.length = 128) : ZB.size = (l.map B).toArray.size := by simp [h, ZB, Z128]
theorem zero_bl (W : World) : (zeroValue 36).run Tryz.prog W = .ok (.agg ZB) W := by kernel_rfl
theorem built_l0 : Tryz.prog.built 36 [(0, .int .u8 109)] = some (L0.map B).toArray := by kernel_rfl
theorem zero_32 (W : World) : (zeroValue 29).run Tryz.prog W = .ok (.agg Z32) W := by kernel_rfl
theorem wr_i (x : Int) (h0 : 0 ≤ x) (h1 : x ≤ 100000) : IntKind.i64.wrap x = x := by rw [IntKind.wrap_i64];omega
theorem wput_l {G p wd x : Nat} {l l' : List UInt8} (W : World) (hl : l.length = 128) (hp : p + wd ≤ 128) (hf : Fits x wd) (hx : x ≤ 9223372036854775807) (he : spl l p (le x wd) = l') (hb : Bk W G (l.map B).toArray 36) :
  Calls Tryz.prog 81 #[.slice (some ⟨G, 0, none⟩) 128 128, .int .i64 (p : Int), .int .i64 (wd : Int), .int .i64 (x : Int)] W fun e w' => e = .returned (.int .i64 0) ∧ Bk w' G (l'.map B).toArray 36 ∧ Fr (fun i => i = G) W w' := by
 refine (WordPut.put_ok G 0 128 128 p wd x _ 36 W hb (by omega) (by omega) (by omega) (by rw [List.size_toArray, List.length_map, hl];omega) hx hp hf).mono ?_
 rintro e w' ⟨rfl, h1, h2⟩
 refine ⟨rfl, ?_, h2⟩
 rw [Nat.zero_add, lay_spl _ _ _ (by rw [le_length, hl];exact hp), he] at h1
 exact h1
theorem fits2 {x : Nat} (h : x < 65536) : Fits (x : Int) ((2 : Nat) : Int) := by
 refine ⟨by omega, by omega, by omega, fun _ => ?_⟩
 show (x : Int) / 65536 ≤ 0
 omega
theorem fits1 {x : Nat} (h : x < 256) : Fits (x : Int) ((1 : Nat) : Int) := by
 refine ⟨by omega, by omega, by omega, fun _ => ?_⟩
 show (x : Int) / 256 ≤ 0
 omega
theorem fits8 (x : Nat) : Fits (x : Int) ((8 : Nat) : Int) := ⟨by omega, by omega, by omega, fun h => by omega⟩

theorem put_no (m : Rm) (a : Option Addr) (c : Nat) (s : Int) (w : World) (hok : m.ok) (hv : RV w m a c) (hs : (Lit.int .i64 s).wf = true) (ht : tabB m s = false) : Calls Tryz.prog 54 #[.agg (rval m a c), .int .i64 s] w fun e w' => e = .returned (.tuple #[.agg ZB, .int .i64 1]) ∧ Fr0 w w' := by
 have hz := zero_bl
 have hs1 : (w.alloc (.cells (rval m a c) 28)).heap.size = w.heap.size + 1 := by simp
 have HX : Jq7 (Bk ((w.alloc (.cells (rval m a c) 28)).alloc (.cells ZB 36)) w.heap.size (rval m a c) 28) := jq7 (Bk.alloc (Bk.new w _) _)
 have HR : Jq7 (Bk ((w.alloc (.cells (rval m a c) 28)).alloc (.cells ZB 36)) (w.heap.size + 1) ZB 36) := jq7 (by have := Bk.new (w.alloc (.cells (rval m a c) 28)) (.cells ZB 36);rwa [hs1] at this)
 have HF : Jq7 (Fr0 w ((w.alloc (.cells (rval m a c) 28)).alloc (.cells ZB 36))) := jq7 (Fr.alloc (Fr.alloc (Fr.refl _ _) _) _)
 have HRI : Jq7 (∀ W, Fr0 w W → Calls Tryz.prog 38 #[.agg (rval m a c), .int .i64 s] W fun e w' => e = .returned (.bool false) ∧ Fr0 W w') := jq7 (fun W f => by have := right_calls m a c s W hok (hv.keep f) hs;rwa [ht] at this)
 have HIN : Jq7 ((Tryz.prog.info? 28).map (·.size) = some (rval m a c).size) := jq7 (info_r _ _)
 clear hs1
 clear hok hv ht
 generalize rval m a c = X at *
 go_enter Tryz.func54, Tryz.ntmps54
 go_wp2_with (first | ((with_reducible show wkq (.load 28 _) _);refine lr 28 w.heap.size X HX.o HIN.o ?_) | (go_at_call 38;(with_reducible refine (HRI.o _ HF.o).mono ?_);rintro e w2 ⟨rfl, hf2⟩;have HR2 := kq0 hf2 HR;have HX2 := kq0 hf2 HX;have HF2 := fq0 HF hf2;clear hf2) | ((with_reducible show wkq (.build 36 _) _);refine build_ev rfl 36 _ rfl [] (by simp) ZB built_zb ?_) | ((with_reducible show wkq (.store 36 _ _) _);refine wpList_store_row rfl 36 _ _ rfl (w.heap.size + 1) ZB rfl rfl 36 ZB HR2.o info_zb rfl ZB_one ?_))
 refine fin_ct (w.heap.size + 1) 36 ZB (.int .i64 1) (by rfl) (by rfl) (by rfl) (by rfl) Tryz.underlying36 (by rfl) info_zb (ArrKit.Bk.row HR2.o _) ?_
 exact ⟨rfl, ArrKit.Fr.row HF2.o _ _ (.inl (by omega))⟩

theorem put_yes (m : Rm) (a : Option Addr) (c : Nat) (s : Int) (w : World) (hok : m.ok) (hv : RV w m a c) (hs : (Lit.int .i64 s).wf = true) (ht : tabB m s = true) (hsh : Sh w) : Calls Tryz.prog 54 #[.agg (rval m a c), .int .i64 s] w fun e w' => e = .returned (.tuple #[.agg ((tabL m).map B).toArray, .int .i64 0]) ∧ Fr0 w w' := by
 have hz := zero_bl
 have hs1 : (w.alloc (.cells (rval m a c) 28)).heap.size = w.heap.size + 1 := by simp
 have HX : Jq7 (Bk ((w.alloc (.cells (rval m a c) 28)).alloc (.cells ZB 36)) w.heap.size (rval m a c) 28) := jq7 (Bk.alloc (Bk.new w _) _)
 have HR : Jq7 (Bk ((w.alloc (.cells (rval m a c) 28)).alloc (.cells ZB 36)) (w.heap.size + 1) ZB 36) := jq7 (by have := Bk.new (w.alloc (.cells (rval m a c) 28)) (.cells ZB 36);rwa [hs1] at this)
 have HF : Jq7 (Fr0 w ((w.alloc (.cells (rval m a c) 28)).alloc (.cells ZB 36))) := jq7 (Fr.alloc (Fr.alloc (Fr.refl _ _) _) _)
 have HRI : Jq7 (∀ W, Fr0 w W → Calls Tryz.prog 38 #[.agg (rval m a c), .int .i64 s] W fun e w' => e = .returned (.bool true) ∧ Fr0 W w') := jq7 (fun W f => by have := right_calls m a c s W hok (hv.keep f) hs;rwa [ht] at this)
 have HIN : Jq7 ((Tryz.prog.info? 28).map (·.size) = some (rval m a c).size) := jq7 (info_r _ _)
 clear hs1
 have HV := jq7 hv
 have HSH := jq7 hsh
 have hpt := tab_parts ht
 have hlen := hpt.2.2.2.1
 have HPR : Jq7 (∀ i (hi : i < m.ps.length), ∃ f t : Nat, m.ps[i] = ((f : Int), (t : Int)) ∧ f < 4096 ∧ t < 4096) := jq7 (fun i hi => by
  have := tab_pair ht hi
  refine ⟨m.ps[i].1.toNat, m.ps[i].2.toNat, ?_, by omega, by omega⟩
  rw [Int.toNat_of_nonneg this.1, Int.toNat_of_nonneg this.2.2.1])
 obtain ⟨gn, hgn⟩ : ∃ gn : Nat, m.gen = (gn : Int) := ⟨m.gen.toNat, by omega⟩
 have HGN : Jq7 (m.gen.toNat = gn) := jq7 (by omega)
 have hgn2 : gn ≤ 4611686018427387904 := by omega
 have HW1 : Jq7 (∀ G W, Bk W G (L0.map B).toArray 36 → Calls Tryz.prog 81 #[.slice (some ⟨G, 0, none⟩) 128 128, .int .i64 1, .int .i64 8, .int .i64 (gn : Int)] W fun e w' => e = .returned (.int .i64 0) ∧ Bk w' G ((L1 m).map B).toArray 36 ∧ Fr (fun i => i = G) W w') := jq7 (fun G W h => wput_l (p := 1) (wd := 8) W L0_len (by omega) (fits8 gn) (by omega) (by have := stepGen m;rwa [HGN.o] at this) h)
 have HW2 : Jq7 (∀ G W, Bk W G ((L1 m).map B).toArray 36 → Calls Tryz.prog 81 #[.slice (some ⟨G, 0, none⟩) 128 128, .int .i64 9, .int .i64 1, .int .i64 (m.ps.length : Int)] W fun e w' => e = .returned (.int .i64 0) ∧ Bk w' G ((bodyB m 0).map B).toArray 36 ∧ Fr (fun i => i = G) W w') := jq7 (fun G W h => wput_l (p := 9) (wd := 1) W (L1_len m) (by omega) (fits1 (by omega)) (by omega) (stepLen m) h)
 have HP0 : Jq7 ((rval m a c)[0]? = some (.int .i64 (gn : Int))) := jq7 (by show some (Value.int .i64 m.gen) = _;rw [hgn])
 have HP1 : Jq7 ((rval m a c)[1]? = some (.slice a m.ps.length c)) := jq7 rfl
 clear hok hv ht hgn hpt hsh
 generalize rval m a c = X at *
 go_enter Tryz.func54, Tryz.ntmps54
 go_wp2_with (first | ((with_reducible show wkq (.load 28 _) _);refine lr 28 w.heap.size X HX.o HIN.o ?_) | (go_at_call 38;(with_reducible refine (HRI.o _ HF.o).mono ?_);rintro e w2 ⟨rfl, hf2⟩;have HR2 := kq0 hf2 HR;have HX2 := kq0 hf2 HX;have HF2 := fq0 HF hf2;have HZ2 := jq7 (Bk.new w2 (.cells ZB 36));clear hf2) | ((with_reducible show wkq (.build 36 _) _);refine build_ev rfl 36 _ rfl [(0, .int .u8 109)] (by simp [Act.eval, Act.put]) (L0.map B).toArray built_l0 ?_) | ((with_reducible show wkq (.store 36 _ _) _);refine wpList_store_row rfl 36 _ _ rfl w2.heap.size (L0.map B).toArray rfl rfl 36 ZB HZ2.o (info_l L0_len) (size_l L0_len) (one_l _) ?_))
 have hft : Fr0 w2 ((w2.alloc (.cells ZB 36)).setRow w2.heap.size (L0.map B).toArray) := ArrKit.Fr.row (Fr.alloc (Fr.refl _ _) _) _ _ (.inl (Nat.le_refl _))
 have HG3 : Jq7 (Bk ((w2.alloc (.cells ZB 36)).setRow w2.heap.size (L0.map B).toArray) w2.heap.size (L0.map B).toArray 36) := jq7 (ArrKit.Bk.row HZ2.o _)
 have HX3 := kq0 hft HX2
 have HR3 := kq0 hft HR2
 have HF3 := fq0 HF2 hft
 have hG1 : w.heap.size + 1 < w2.heap.size := Bk.lt HR2.o
 clear hft HX2 HR2 HF2 HZ2 HX HR HF HRI HIN
 generalize ((w2.alloc (.cells ZB 36)).setRow w2.heap.size (L0.map B).toArray) = w3 at *
 generalize w2.heap.size = G at *
 have c0 : w3.cell? ⟨w.heap.size, 0, none⟩ = some (.int .i64 (gn : Int)) := (Bk.cell HX3.o 0).trans HP0.o
 go_still_tail 3, (by kernel_rfl)
 change wpList _ _ _ _ _ w3.drew
 have HG4 := HG3
 have HX4 := HX3
 have HR4 := HR3
 have HF4 : Jq7 (Fr0 w w3.drew) := jq7 (Fr.drew HF3.o)
 clear HG3 HX3 HR3 HF3
 change wpList _ _ _ _ _ w3.drew
 change Jq7 (Bk w3.drew _ _ _) at HG4 HX4 HR4
 generalize w3.drew = w4 at *
 go_wp2_with (first | (go_at_call 81;(with_reducible refine (HW1.o G _ HG4.o).mono ?_);rintro e w5 ⟨rfl, hb_, hf_⟩;have HG5 := jq7 hb_;have HX5 := jq7 (hf_.keep HX4.o (by omega));have HR5 := jq7 (hf_.keep HR4.o (by omega));have HF5 : Jq7 (Fr0 w w5) := jq7 (Fr.newG HF4.o hf_ (by omega));clear hb_ hf_))
 have c1 : w5.cell? ⟨w.heap.size, 1, none⟩ = some (.slice a m.ps.length c) := (Bk.cell HX5.o 1).trans HP1.o
 go_still_tail 4, (by kernel_rfl)
 change wpList _ _ _ _ _ w5.drew
 have HG6 := HG5
 have HX6 := HX5
 have HR6 := HR5
 have HF6 : Jq7 (Fr0 w w5.drew) := jq7 (Fr.drew HF5.o)
 clear HG5 HX5 HR5 HF5
 change wpList _ _ _ _ _ w5.drew
 change Jq7 (Bk w5.drew _ _ _) at HG6 HX6 HR6
 generalize w5.drew = w6 at *
 go_wp2_with (first | (go_at_call 81;(with_reducible refine (HW2.o G _ HG6.o).mono ?_);rintro e w7 ⟨rfl, hb_, hf_⟩;have HG7 := jq7 hb_;have HX7 := jq7 (hf_.keep HX6.o (by omega));have HR7 := jq7 (hf_.keep HR6.o (by omega));have HF7 : Jq7 (Fr0 w w7) := jq7 (Fr.newG HF6.o hf_ (by omega));have c17 : w7.cell? ⟨w.heap.size, 1, none⟩ = some (.slice a m.ps.length c) := (Bk.cell HX7.o 1).trans HP1.o;clear hb_ hf_))
 have hzp := zero_pr
 go_loopw [28] (fun jj W => ∃ j : Nat, j ≤ m.ps.length ∧ jj = .int .i64 j ∧ Bk W G ((bodyB m j).map B).toArray 36 ∧ Bk W w.heap.size X 28 ∧ Bk W (w.heap.size + 1) ZB 36 ∧ Fr0 w W) (fun jj _ => m.ps.length - (intOf jj).toNat)
 case atStart => exact ⟨0, Nat.zero_le _, rfl, HG7.o, HX7.o, HR7.o, HF7.o⟩
 case round =>
  obtain ⟨j, hj, rfl, hg, hx, hr, hF⟩ := hrel
  by_cases hjl : j < m.ps.length
  ·obtain ⟨b2, o2, rfl, hat⟩ := RdP.form HV.o.rd hjl
   have HRG := jq7 (hat _ (HV.o.rd.keep hF)).1
   obtain ⟨f, t, hft, hf1, hf2⟩ := HPR.o j hjl
   have hs1 := step1 m m.ps[j].1 hj
   have hs2 := step2 m hjl
   rw [hft] at HRG hs1 hs2
   rw [Int.toNat_natCast] at hs1
   simp only [Int.toNat_natCast] at hs2
   have HWA : Jq7 (∀ W, Bk W G ((bodyB m j).map B).toArray 36 → Calls Tryz.prog 81 #[.slice (some ⟨G, 0, none⟩) 128 128, .int .i64 (10 + 4 * (j : Int)), .int .i64 2, .int .i64 (f : Int)] W fun e w' => e = .returned (.int .i64 0) ∧ Bk w' G ((halfB m j (f : Int)).map B).toArray 36 ∧ Fr (fun i => i = G) W w') := jq7 (fun W h => by have := wput_l (p := 10 + 4 * j) (wd := 2) W (bodyB_len m hj hlen) (by omega) (fits2 (by omega)) (by omega) hs1 h;rwa [show ((10 + 4 * j : Nat) : Int) = 10 + 4 * (j : Int) by omega] at this)
   have HWB : Jq7 (∀ W, Bk W G ((halfB m j (f : Int)).map B).toArray 36 → Calls Tryz.prog 81 #[.slice (some ⟨G, 0, none⟩) 128 128, .int .i64 (10 + 4 * (j : Int) + 2), .int .i64 2, .int .i64 (t : Int)] W fun e w' => e = .returned (.int .i64 0) ∧ Bk w' G ((bodyB m (j + 1)).map B).toArray 36 ∧ Fr (fun i => i = G) W w') := jq7 (fun W h => by have := wput_l (p := 12 + 4 * j) (wd := 2) W (halfB_len m _ hj hlen) (by omega) (fits2 (by omega)) (by omega) hs2 h;rwa [show ((12 + 4 * j : Nat) : Int) = 10 + 4 * (j : Int) + 2 by omega] at this)
   have hf6 : Fr0 wr ((wr.alloc (.cells PZ2 70)).setRow wr.heap.size (PR ((f : Int), (t : Int))).toArray) := ArrKit.Fr.row (Fr.alloc (Fr.refl _ _) _) _ _ (.inl (Nat.le_refl _))
   have HZR := jq7 (Bk.new wr (.cells PZ2 70))
   have HB1 := jq7 (ArrKit.Bk.row HZR.o (PR ((f : Int), (t : Int))).toArray)
   have HF1 := jq7 (hF.then0 hf6)
   have HX1 := jq7 (hf6.keep hx (fun h => h))
   have HR1 := jq7 (hf6.keep hr (fun h => h))
   have HG1 := jq7 (hf6.keep hg (fun h => h))
   have hgp : G < wr.heap.size := Bk.lt hg
   clear hat hg hx hr hF hf6 hft hs1 hs2
   go_wp2_with (first | ((with_reducible show wkq (.load 70 _) _);refine wpList_load_mid rfl 70 _ rfl b2 (o2 + j * 2) rfl (PR ((f : Int), (t : Int))) _ HRG.o Tryz.underlying70 rfl (info_pr _) ?_) | ((with_reducible show wkq (.store 70 _ _) _);refine wpList_store_row rfl 70 _ _ rfl wr.heap.size (PR ((f : Int), (t : Int))).toArray rfl rfl 70 PZ2 HZR.o (info_pr2 _) rfl (PR_all _) ?_))
   clear HZR
   generalize (wr.alloc (.cells PZ2 70)).setRow wr.heap.size (PR ((f : Int), (t : Int))).toArray = w1 at *
   generalize wr.heap.size = gp at *
   have d0 : w1.cell? ⟨gp, 0, none⟩ = some (.int .i64 (f : Int)) := (Bk.cell HB1.o 0).trans (PR_0 _ _)
   have hw4 : IntKind.i64.wrap (4 * (j : Int)) = 4 * (j : Int) := wr_i _ (by omega) (by omega)
   have hw10 : IntKind.i64.wrap (10 + 4 * (j : Int)) = 10 + 4 * (j : Int) := wr_i _ (by omega) (by omega)
   have hw12 : IntKind.i64.wrap (10 + 4 * (j : Int) + 2) = 10 + 4 * (j : Int) + 2 := wr_i _ (by omega) (by omega)
   go_still_tail 6, (by kernel_rfl)
   change wpList _ _ _ _ _ w1.drew
   have HBd : Jq7 (Bk w1.drew gp (PR ((f : Int), (t : Int))).toArray 70) := jq7 HB1.o
   have HGd : Jq7 (Bk w1.drew G ((bodyB m j).map B).toArray 36) := jq7 HG1.o
   have HXd : Jq7 (Bk w1.drew w.heap.size X 28) := jq7 HX1.o
   have HRd : Jq7 (Bk w1.drew (w.heap.size + 1) ZB 36) := jq7 HR1.o
   have HFd : Jq7 (Fr0 w w1.drew) := jq7 (Fr.drew HF1.o)
   clear HB1 HG1 HX1 HR1 HF1 d0
   generalize w1.drew = wd at *
   go_wp2_with (first | (go_at_call 81;(with_reducible refine (HWA.o  _ HGd.o).mono ?_);rintro e we ⟨rfl, hb_, hf_⟩;have HGe := jq7 hb_;have HXe := jq7 (hf_.keep HXd.o (by omega));have HRe := jq7 (hf_.keep HRd.o (by omega));have HBe := jq7 (hf_.keep HBd.o (by omega));have HFe : Jq7 (Fr0 w we) := jq7 (Fr.newG HFd.o hf_ (by omega));have d1 : we.cell? ⟨gp, 1, none⟩ = some (.int .i64 (t : Int)) := (Bk.cell HBe.o 1).trans (PR_1 _ _);clear hb_ hf_))
   go_still_tail 7, (by kernel_rfl)
   change wpList _ _ _ _ _ we.drew
   have HGg : Jq7 (Bk we.drew G ((halfB m j (f : Int)).map B).toArray 36) := jq7 HGe.o
   have HXg : Jq7 (Bk we.drew w.heap.size X 28) := jq7 HXe.o
   have HRg : Jq7 (Bk we.drew (w.heap.size + 1) ZB 36) := jq7 HRe.o
   have HFg : Jq7 (Fr0 w we.drew) := jq7 (Fr.drew HFe.o)
   clear HGe HXe HRe HFe HBe HBd HGd HXd HRd HFd d1
   generalize we.drew = wg at *
   go_wp2_with (first | (go_at_call 81;(with_reducible refine (HWB.o  _ HGg.o).mono ?_);rintro e wh ⟨rfl, hb_, hf_⟩;have HGh := jq7 hb_;have HXh := jq7 (hf_.keep HXg.o (by omega));have HRh := jq7 (hf_.keep HRg.o (by omega));have HFh : Jq7 (Fr0 w wh) := jq7 (Fr.newG HFg.o hf_ (by omega));clear hb_ hf_))
   go_roundw
   case rel => exact ⟨j + 1, by omega, by go_num, HGh.o, HXh.o, HRh.o, HFh.o⟩
   case measure => simp [intOf];omega
  ·have hje : j = m.ps.length := by omega
   subst hje
   have HG8 := jq7 hg
   have HX8 := jq7 hx
   have HR8 := jq7 hr
   have HF8 := jq7 hF
   have hbl := bodyB_len m (Nat.le_refl _) hlen
   have hhl := headB_len m hlen
   have HRD : Jq7 (Rd wr (some ⟨G, 0, none⟩) (headB m)) := jq7 (Rd.block hg (fun i hi => by
    rw [hhl] at hi
    rw [Nat.zero_add, List.getElem?_toArray, List.getElem?_map, List.getElem?_eq_getElem (by omega)]
    simp [headB]))
   have HSU : Jq7 (Calls Tryz.prog 57 #[.slice (some ⟨G, 0, none⟩) 96 128] wr fun e w' => e = .returned (.agg ((sumOf (headB m)).map B).toArray) ∧ Fr0 wr w') := jq7 (by
    obtain ⟨⟨t1, hk⟩, ⟨t2, hb⟩⟩ := HSH.o.keep0 hF
    exact ShaSum.sum_calls _ 96 128 (headB m) wr hhl HRD.o (by omega) hk hb)
   have HSL : Jq7 ((sumOf (headB m)).length = 32) := jq7 (sumOf_length _)
   have HST : Jq7 (spl (bodyB m m.ps.length) 96 (sumOf (headB m)) = tabL m) := jq7 (step_sum m hlen)
   have hz2 := zero_32
   have HI32 : Jq7 ((Tryz.prog.info? 29).map (·.size) = some ((sumOf (headB m)).map B).toArray.size ∧ Z32.size = ((sumOf (headB m)).map B).toArray.size) := jq7 (by rw [info32a, List.size_toArray, List.length_map, HSL.o];exact ⟨rfl, rfl⟩)
   have HO32 := jq7 (one_l (sumOf (headB m)))
   clear hg hx hr hF HRD
   generalize sumOf (headB m) = sm at *
   go_wp2_with (first | (go_at_call 57;(with_reducible refine (HSU.o).mono ?_);rintro e w9 ⟨rfl, hf9⟩;have HZ9 := jq7 (Bk.new w9 (.cells Z32 29));have HG9 := kq0 hf9 HG8;have HR9 := kq0 hf9 HR8;have HF9 := fq0 HF8 hf9;clear hf9) | ((with_reducible show wkq (.store 29 _ _) _);refine wpList_store_row rfl 29 _ _ rfl w9.heap.size (sm.map B).toArray rfl rfl 29 Z32 HZ9.o HI32.o.1 HI32.o.2 HO32.o ?_))
   have hfa : Fr0 w9 ((w9.alloc (.cells Z32 29)).setRow w9.heap.size (sm.map B).toArray) := ArrKit.Fr.row (Fr.alloc (Fr.refl _ _) _) _ _ (.inl (Nat.le_refl _))
   have HSa := jq7 (ArrKit.Bk.row HZ9.o (sm.map B).toArray)
   have HGa := kq0 hfa HG9
   have HRa := kq0 hfa HR9
   have HFa := fq0 HF9 hfa
   clear hfa HZ9 HG9 HR9 HF9 HG8 HX8 HR8 HF8 HSU
   generalize (w9.alloc (.cells Z32 29)).setRow w9.heap.size (sm.map B).toArray = wa at *
   generalize w9.heap.size = gs at *
   go_still_tail 2, (by kernel_rfl)
   change wpList _ _ _ _ _ wa.drew
   have HC : Jq7 (∀ ty, (Builtin.copy_ #[93, 93] ty #[.slice (some ⟨G, 96, none⟩) 32 32, .slice (some ⟨gs, 0, none⟩) 32 32]).run Tryz.prog wa.drew = .ok (goInt (sm.map B).length) (wa.drew.setCells G 96 (sm.map B))) := jq7 fun ty => by
    have hbg : Bk wa.drew G _ 36 := Bk.drew HGa.o
    have hby : Bk wa.drew gs _ 29 := Bk.drew HSa.o
    have hl : (sm.map B).length = 32 := by rw [List.length_map, HSL.o]
    exact run_copy_cells wa.drew 93 93 ty 5 G 96 32 32 ⟨gs, 0, none⟩ 32 32 (sm.map B) Tryz.underlying93 (by kernel_rfl) (by rw [hl];rfl) (fun j v hj => by rw [add_form, hby.cell, Nat.zero_add, List.getElem?_toArray];exact hj) (fun j hj => by rw [hbg.cell, Array.getElem?_eq_getElem (by rw [List.size_toArray, List.length_map, hbl];omega)];rfl) (fun j hj => hbg.free _) (by intro v hv;obtain ⟨x, _, rfl⟩ := List.mem_map.1 hv;rfl)
   have HGb : Jq7 (Bk (wa.drew.setCells G 96 (sm.map B)) G ((tabL m).map B).toArray 36) := jq7 (by
    have := sets_bk (sm.map B) 96 _ _ (Bk.drew HGa.o)
    rwa [lay_spl _ _ _ (by rw [HSL.o, hbl];omega), HST.o] at this)
   have HRb : Jq7 (Bk (wa.drew.setCells G 96 (sm.map B)) (w.heap.size + 1) ZB 36) := jq7 ((sets_fr (sm.map B) 96 wa.drew (Fr.refl (· = G) _)).keep (Bk.drew HRa.o) (by omega))
   have HFb : Jq7 (Fr0 w (wa.drew.setCells G 96 (sm.map B))) := jq7 (Fr.newG (Fr.drew HFa.o) (sets_fr (sm.map B) 96 wa.drew (Fr.refl (· = G) _)) (by omega))
   generalize hwb : wa.drew.setCells G 96 (sm.map B) = wb at *
   have HWB2 := jq7 hwb
   clear hwb
   have HTL := jq7 (tabL_len m hlen)
   go_wp2_with (first | (refine wpList_copy_run _ rfl _ _ 93 93 rfl _ _ rfl rfl (HC.o _) ?_) | ((with_reducible show wkq (.load 36 _) _);refine lr 36 G ((tabL m).map B).toArray HGb.o (info_l HTL.o) ?_) | ((with_reducible show wkq (.store 36 _ _) _);refine wpList_store_row rfl 36 _ _ rfl (w.heap.size + 1) ((tabL m).map B).toArray rfl rfl 36 ZB HRb.o (info_l HTL.o) (size_l HTL.o) (one_l _) ?_))
   refine fin_ct (w.heap.size + 1) 36 ((tabL m).map B).toArray (.int .i64 0) (by rfl) (by rfl) (by rfl) (by rfl) Tryz.underlying36 (by rfl) (info_l HTL.o) (ArrKit.Bk.row HRb.o _) ?_
   exact ⟨rfl, ArrKit.Fr.row HFb.o _ _ (.inl (by omega))⟩
theorem put_calls (m : Rm) (a : Option Addr) (c : Nat) (s : Int) (w : World) (hok : m.ok) (hv : RV w m a c) (hs : (Lit.int .i64 s).wf = true) (hsh : Sh w) : Calls Tryz.prog 54 #[.agg (rval m a c), .int .i64 s] w fun e w' => e = .returned (.tuple #[.agg ((tabX m s).map B).toArray, .int .i64 (tabE m s)]) ∧ Fr0 w w' := by
 unfold tabX tabE
 cases ht : tabB m s with
 | false => exact put_no m a c s w hok hv hs ht
 | true => exact put_yes m a c s w hok hv hs ht hsh

end Go.Proofs.YtmkmpfnadcmcoaaGreatDoor.RmPut
namespace Go.Proofs.YtmkmpfnadcmcoaaGreatDoor.RmRPut
open Go Go.RowKit K EqKit ArrKit HeldKit GKit GRow DiskKit RmKit MapKit RmRight RmRRight DiskRRead ShaRot ShaSpread ShaStep ShaPlain ShaRef WordPut ShaSum RmTab RmPut
def sealX (L : List UInt8) : List UInt8 := L.take 96 ++ sumOf (L.take 96)
theorem sealX_len {L : List UInt8} (h : L.length = 128) : (sealX L).length = 128 := by
 rw [sealX, List.length_append, List.length_take, h, sumOf_length];rfl
theorem sealX_spl {L : List UInt8} (h : L.length = 128) : spl L 96 (sumOf (L.take 96)) = sealX L := by
 rw [spl, sumOf_length, List.drop_eq_nil_of_le (by rw [h];omega), List.append_nil];rfl
theorem seal_calls (L : List UInt8) (w : World) (hl : L.length = 128) : Calls Tryz.prog 97 #[.agg (L.map B).toArray] w fun e w' => e = .returned (.agg ((sealX L).map B).toArray) ∧ Fr0 w w' := by
 have hz := zero_bl
 have hz2 := zero_32
 have hs1 : (w.alloc (.cells (L.map B).toArray 36)).heap.size = w.heap.size + 1 := by simp
 have HX : Jq7 (Bk ((w.alloc (.cells (L.map B).toArray 36)).alloc (.cells ZB 36)) w.heap.size (L.map B).toArray 36) := jq7 (Bk.alloc (Bk.new w _) _)
 have HR : Jq7 (Bk ((w.alloc (.cells (L.map B).toArray 36)).alloc (.cells ZB 36)) (w.heap.size + 1) ZB 36) := jq7 (by have := Bk.new (w.alloc (.cells (L.map B).toArray 36)) (.cells ZB 36);rwa [hs1] at this)
 have HF : Jq7 (Fr0 w ((w.alloc (.cells (L.map B).toArray 36)).alloc (.cells ZB 36))) := jq7 (Fr.alloc (Fr.alloc (Fr.refl _ _) _) _)
 have hhl : (L.take 96).length = 96 := by rw [List.length_take, hl];rfl
 have HRD : Jq7 (Rd ((w.alloc (.cells (L.map B).toArray 36)).alloc (.cells ZB 36)) (some ⟨w.heap.size, 0, none⟩) (L.take 96)) := jq7 (Rd.block HX.o (fun i hi => by
  rw [hhl] at hi
  rw [Nat.zero_add, List.getElem?_toArray, List.getElem?_map, List.getElem?_eq_getElem (by omega)]
  simp))
 have HSU : Jq7 (Calls Tryz.prog 75 #[.slice (some ⟨w.heap.size, 0, none⟩) 96 128] ((w.alloc (.cells (L.map B).toArray 36)).alloc (.cells ZB 36)) fun e w' => e = .returned (.agg ((sumOf (L.take 96)).map B).toArray) ∧ Fr0 ((w.alloc (.cells (L.map B).toArray 36)).alloc (.cells ZB 36)) w') := jq7 (ShaRSum.rsum_calls _ 96 128 (L.take 96) ((w.alloc (.cells (L.map B).toArray 36)).alloc (.cells ZB 36)) hhl HRD.o (by omega))
 have hsl := sumOf_length (L.take 96)
 have HST : Jq7 (spl L 96 (sumOf (L.take 96)) = sealX L) := jq7 (sealX_spl hl)
 have HI32 : Jq7 ((Tryz.prog.info? 29).map (·.size) = some ((sumOf (L.take 96)).map B).toArray.size ∧ Z32.size = ((sumOf (L.take 96)).map B).toArray.size) := jq7 (by rw [info32a, List.size_toArray, List.length_map, hsl];exact ⟨rfl, rfl⟩)
 have HO32 := jq7 (one_l (sumOf (L.take 96)))
 have HSX := jq7 (sealX_len hl)
 clear hs1 HRD hhl
 generalize sumOf (L.take 96) = sm at *
 go_enter Tryz.func97, Tryz.ntmps97
 go_wp2_with (first | (go_at_call 75;(with_reducible refine (HSU.o).mono ?_);rintro e w9 ⟨rfl, hf9⟩;have HZ9 := jq7 (Bk.new w9 (.cells Z32 29));have HG9 := kq0 hf9 HX;have HR9 := kq0 hf9 HR;have HF9 := fq0 HF hf9;clear hf9) | ((with_reducible show wkq (.store 29 _ _) _);refine wpList_store_row rfl 29 _ _ rfl w9.heap.size (sm.map B).toArray rfl rfl 29 Z32 HZ9.o HI32.o.1 HI32.o.2 HO32.o ?_))
 have hfa : Fr0 w9 ((w9.alloc (.cells Z32 29)).setRow w9.heap.size (sm.map B).toArray) := ArrKit.Fr.row (Fr.alloc (Fr.refl _ _) _) _ _ (.inl (Nat.le_refl _))
 have HSa := jq7 (ArrKit.Bk.row HZ9.o (sm.map B).toArray)
 have HGa := kq0 hfa HG9
 have HRa := kq0 hfa HR9
 have HFa := fq0 HF9 hfa
 have hgs : w.heap.size < w9.heap.size ∧ w.heap.size + 1 < w9.heap.size := ⟨Bk.lt HG9.o, Bk.lt HR9.o⟩
 clear hfa HZ9 HG9 HR9 HF9 HX HR HF HSU
 generalize (w9.alloc (.cells Z32 29)).setRow w9.heap.size (sm.map B).toArray = wa at *
 generalize w9.heap.size = gs at *
 go_loopw [4] (fun jj W => ∃ j : Nat, j ≤ 32 ∧ jj = .int .i64 j ∧ Bk W w.heap.size (lay (L.map B).toArray 96 ((sm.map B).take j)) 36 ∧ Bk W (w.heap.size + 1) ZB 36 ∧ Bk W gs (sm.map B).toArray 29 ∧ Fr0 w W) (fun jj _ => 32 - (intOf jj).toNat)
 case atStart => exact ⟨0, Nat.zero_le _, rfl, by rw [List.take_zero];exact HGa.o, HRa.o, HSa.o, HFa.o⟩
 case round =>
  obtain ⟨j, hj, rfl, hg, hr, hs, hF⟩ := hrel
  by_cases hjl : j < 32
  ·have c5 : wr.cell? ⟨gs, j, none⟩ = some (B sm[j]) := (Bk.cell hs j).trans (by rw [List.getElem?_toArray, List.getElem?_map, List.getElem?_eq_getElem (by omega)];rfl)
   obtain ⟨v0, c6⟩ : ∃ v0, wr.cell? ⟨w.heap.size, 96 + j, none⟩ = some v0 := ⟨_, (Bk.cell hg (96 + j)).trans (Array.getElem?_eq_getElem (by simp [hl];omega))⟩
   have f6 := Bk.free hg (96 + j)
   have cz : decide ((j : Int) < 32) = true := decide_eq_true (by omega)
   have HJL := jq7 hjl
   have hw96 : IntKind.i64.wrap (96 + (j : Int)) = 96 + (j : Int) := wr_i _ (by omega) (by omega)
   have HTK : Jq7 (lay (L.map B).toArray 96 ((sm.map B).take (j + 1)) = (lay (L.map B).toArray 96 ((sm.map B).take j)).setIfInBounds (96 + j) (B sm[j])) := jq7 (by rw [lay_take (by simp;omega), List.getElem_map])
   have HG := jq7 hg
   have HR := jq7 hr
   have HS := jq7 hs
   have HF := jq7 hF
   clear hg hr hs hF
   rw [B_def] at c5
   generalize hq : sm[j].toNat = q at *
   have HQ := jq7 hq
   clear hq
   go_wp2
   go_roundw
   case rel => exact ⟨j + 1, by have := HJL.o;omega, by go_num, by rw [HTK.o, B_def, HQ.o];exact HG.o.set _ _, Bk.setOther HR.o _ _ (by show w.heap.size + 1 ≠ w.heap.size;omega), Bk.setOther HS.o _ _ (by show gs ≠ w.heap.size;omega), Fr.set HF.o _ _ (.inl (Nat.le_refl _))⟩
   case measure => have := HJL.o;simp [intOf];omega
  ·have hje : j = 32 := by omega
   subst hje
   have hg2 : Bk wr w.heap.size ((sealX L).map B).toArray 36 := by
    rw [List.take_of_length_le (by simp [hsl]), lay_spl _ _ _ (by omega), HST.o] at hg
    exact hg
   have HG := jq7 hg2
   have HR := jq7 hr
   have HF := jq7 hF
   clear hg hg2 hr hs hF
   go_wp2_with (first | ((with_reducible show wkq (.load 36 _) _);refine lr 36 w.heap.size ((sealX L).map B).toArray HG.o (info_l HSX.o) ?_) | ((with_reducible show wkq (.store 36 _ _) _);refine wpList_store_row rfl 36 _ _ rfl (w.heap.size + 1) ((sealX L).map B).toArray rfl rfl 36 ZB HR.o (info_l HSX.o) (size_l HSX.o) (one_l _) ?_))
   refine fin_c (w.heap.size + 1) 36 ((sealX L).map B).toArray (by rfl) (by rfl) (by rfl) Tryz.underlying36 (by rfl) (info_l HSX.o) (ArrKit.Bk.row HR.o _) ?_
   exact ⟨rfl, ArrKit.Fr.row HF.o _ _ (.inl (by omega))⟩

theorem rput_no (m : Rm) (a : Option Addr) (c : Nat) (s : Int) (w : World) (hok : m.ok) (hv : RV w m a c) (hs : (Lit.int .i64 s).wf = true) (ht : tabB m s = false) : Calls Tryz.prog 80 #[.agg (rval m a c), .int .i64 s] w fun e w' => e = .returned (.tuple #[.agg ZB, .int .i64 1]) ∧ Fr0 w w' := by
 have hz := zero_bl
 have hs1 : (w.alloc (.cells (rval m a c) 28)).heap.size = w.heap.size + 1 := by simp
 have hs2 : ((w.alloc (.cells (rval m a c) 28)).alloc (.cells ZB 36)).heap.size = w.heap.size + 1 + 1 := by simp
 have HX : Jq7 (Bk (((w.alloc (.cells (rval m a c) 28)).alloc (.cells ZB 36)).alloc (.cells ZB 36)) w.heap.size (rval m a c) 28) := jq7 (Bk.alloc (Bk.alloc (Bk.new w _) _) _)
 have HR : Jq7 (Bk (((w.alloc (.cells (rval m a c) 28)).alloc (.cells ZB 36)).alloc (.cells ZB 36)) (w.heap.size + 1) ZB 36) := jq7 (Bk.alloc (by have := Bk.new (w.alloc (.cells (rval m a c) 28)) (.cells ZB 36);rwa [hs1] at this) _)
 have HG : Jq7 (Bk (((w.alloc (.cells (rval m a c) 28)).alloc (.cells ZB 36)).alloc (.cells ZB 36)) (w.heap.size + 1 + 1) ZB 36) := jq7 (by have := Bk.new ((w.alloc (.cells (rval m a c) 28)).alloc (.cells ZB 36)) (.cells ZB 36);rwa [hs2] at this)
 have HF : Jq7 (Fr0 w (((w.alloc (.cells (rval m a c) 28)).alloc (.cells ZB 36)).alloc (.cells ZB 36))) := jq7 (Fr.alloc (Fr.alloc (Fr.alloc (Fr.refl _ _) _) _) _)
 have HRI : Jq7 (∀ W, Fr0 w W → Calls Tryz.prog 46 #[.agg (rval m a c), .int .i64 s] W fun e w' => e = .returned (.bool false) ∧ Fr0 W w') := jq7 (fun W f => by have := rright_calls m a c s W hok (hv.keep f) hs;rwa [ht] at this)
 have HIN : Jq7 ((Tryz.prog.info? 28).map (·.size) = some (rval m a c).size) := jq7 (info_r _ _)
 clear hs1 hs2
 clear hok hv ht
 generalize rval m a c = X at *
 go_enter Tryz.func80, Tryz.ntmps80
 go_wp2_with (first | ((with_reducible show wkq (.load 28 _) _);refine lr 28 w.heap.size X HX.o HIN.o ?_) | (go_at_call 46;(with_reducible refine (HRI.o _ HF.o).mono ?_);rintro e w2 ⟨rfl, hf2⟩;have HR2 := kq0 hf2 HR;have HG2 := kq0 hf2 HG;have HX2 := kq0 hf2 HX;have HF2 := fq0 HF hf2;clear hf2) | ((with_reducible show wkq (.load 36 _) _);refine lr 36 (w.heap.size + 1 + 1) ZB HG2.o info_zb ?_) | ((with_reducible show wkq (.store 36 _ _) _);refine wpList_store_row rfl 36 _ _ rfl (w.heap.size + 1) ZB rfl rfl 36 ZB HR2.o info_zb rfl ZB_one ?_))
 refine fin_ct (w.heap.size + 1) 36 ZB (.int .i64 1) (by rfl) (by rfl) (by rfl) (by rfl) Tryz.underlying36 (by rfl) info_zb (ArrKit.Bk.row HR2.o _) ?_
 exact ⟨rfl, ArrKit.Fr.row HF2.o _ _ (.inl (by omega))⟩
theorem rwput_l {G p wd x : Nat} {l l' : List UInt8} (W : World) (hl : l.length = 128) (hp : p + wd ≤ 128) (hf : Fits x wd) (hx : x ≤ 9223372036854775807) (he : spl l p (le x wd) = l') (hb : Bk W G (l.map B).toArray 36) :
  Calls Tryz.prog 96 #[.slice (some ⟨G, 0, none⟩) 128 128, .int .i64 (p : Int), .int .i64 (wd : Int), .int .i64 (x : Int)] W fun e w' => e = .returned (.int .i64 0) ∧ Bk w' G (l'.map B).toArray 36 ∧ Fr (fun i => i = G) W w' := by
 refine (RefWord.put_ok G 0 128 128 p wd x _ 36 W hb (by omega) (by omega) (by omega) (by rw [List.size_toArray, List.length_map, hl];omega) hx hp hf).mono ?_
 rintro e w' ⟨rfl, h1, h2⟩
 refine ⟨rfl, ?_, h2⟩
 rw [Nat.zero_add, lay_spl _ _ _ (by rw [le_length, hl];exact hp), he] at h1
 exact h1
theorem l0_set : ZB.setIfInBounds 0 (.int .u8 109) = (L0.map B).toArray := by kernel_rfl
theorem body_set (m : Rm) (h : m.ps.length ≤ 20) : ((L1 m).map B).toArray.setIfInBounds 9 (.int .u8 (m.ps.length : Int)) = ((bodyB m 0).map B).toArray := by
 have h1 := lay_spl (L1 m) [UInt8.ofNat m.ps.length] 9 (by rw [L1_len];simp)
 rw [stepLen] at h1
 rw [← h1]
 simp only [List.map_cons, List.map_nil, lay]
 rw [B_ofNat, Nat.mod_eq_of_lt (by omega)]
theorem rput_yes (m : Rm) (a : Option Addr) (c : Nat) (s : Int) (w : World) (hok : m.ok) (hv : RV w m a c) (hs : (Lit.int .i64 s).wf = true) (ht : tabB m s = true) : Calls Tryz.prog 80 #[.agg (rval m a c), .int .i64 s] w fun e w' => e = .returned (.tuple #[.agg ((tabL m).map B).toArray, .int .i64 0]) ∧ Fr0 w w' := by
 have hz := zero_bl
 have hs1 : (w.alloc (.cells (rval m a c) 28)).heap.size = w.heap.size + 1 := by simp
 have hs2 : ((w.alloc (.cells (rval m a c) 28)).alloc (.cells ZB 36)).heap.size = w.heap.size + 1 + 1 := by simp
 have HX : Jq7 (Bk (((w.alloc (.cells (rval m a c) 28)).alloc (.cells ZB 36)).alloc (.cells ZB 36)) w.heap.size (rval m a c) 28) := jq7 (Bk.alloc (Bk.alloc (Bk.new w _) _) _)
 have HR : Jq7 (Bk (((w.alloc (.cells (rval m a c) 28)).alloc (.cells ZB 36)).alloc (.cells ZB 36)) (w.heap.size + 1) ZB 36) := jq7 (Bk.alloc (by have := Bk.new (w.alloc (.cells (rval m a c) 28)) (.cells ZB 36);rwa [hs1] at this) _)
 have HG : Jq7 (Bk (((w.alloc (.cells (rval m a c) 28)).alloc (.cells ZB 36)).alloc (.cells ZB 36)) (w.heap.size + 1 + 1) ZB 36) := jq7 (by have := Bk.new ((w.alloc (.cells (rval m a c) 28)).alloc (.cells ZB 36)) (.cells ZB 36);rwa [hs2] at this)
 have HF : Jq7 (Fr0 w (((w.alloc (.cells (rval m a c) 28)).alloc (.cells ZB 36)).alloc (.cells ZB 36))) := jq7 (Fr.alloc (Fr.alloc (Fr.alloc (Fr.refl _ _) _) _) _)
 have HRI : Jq7 (∀ W, Fr0 w W → Calls Tryz.prog 46 #[.agg (rval m a c), .int .i64 s] W fun e w' => e = .returned (.bool true) ∧ Fr0 W w') := jq7 (fun W f => by have := rright_calls m a c s W hok (hv.keep f) hs;rwa [ht] at this)
 have HIN : Jq7 ((Tryz.prog.info? 28).map (·.size) = some (rval m a c).size) := jq7 (info_r _ _)
 clear hs1 hs2
 have HV := jq7 hv
 have hpt := tab_parts ht
 have hlen := hpt.2.2.2.1
 have HPR : Jq7 (∀ i (hi : i < m.ps.length), ∃ f t : Nat, m.ps[i] = ((f : Int), (t : Int)) ∧ f < 4096 ∧ t < 4096) := jq7 (fun i hi => by
  have := tab_pair ht hi
  refine ⟨m.ps[i].1.toNat, m.ps[i].2.toNat, ?_, by omega, by omega⟩
  rw [Int.toNat_of_nonneg this.1, Int.toNat_of_nonneg this.2.2.1])
 obtain ⟨gn, hgn⟩ : ∃ gn : Nat, m.gen = (gn : Int) := ⟨m.gen.toNat, by omega⟩
 have HGN : Jq7 (m.gen.toNat = gn) := jq7 (by omega)
 have hgn2 : gn ≤ 4611686018427387904 := by omega
 have HW1 : Jq7 (∀ G W, Bk W G (L0.map B).toArray 36 → Calls Tryz.prog 96 #[.slice (some ⟨G, 0, none⟩) 128 128, .int .i64 1, .int .i64 8, .int .i64 (gn : Int)] W fun e w' => e = .returned (.int .i64 0) ∧ Bk w' G ((L1 m).map B).toArray 36 ∧ Fr (fun i => i = G) W w') := jq7 (fun G W h => rwput_l (p := 1) (wd := 8) W L0_len (by omega) (fits8 gn) (by omega) (by have := stepGen m;rwa [HGN.o] at this) h)
 have HP0 : Jq7 ((rval m a c)[0]? = some (.int .i64 (gn : Int))) := jq7 (by show some (Value.int .i64 m.gen) = _;rw [hgn])
 have HP1 : Jq7 ((rval m a c)[1]? = some (.slice a m.ps.length c)) := jq7 rfl
 clear hok hv ht hgn hpt
 generalize rval m a c = X at *
 have g0 : ∀ W, Bk W (w.heap.size + 1 + 1) ZB 36 → W.cell? ⟨w.heap.size + 1 + 1, 0, none⟩ = some (B 0) := fun W h => (Bk.cell h 0).trans rfl
 go_enter Tryz.func80, Tryz.ntmps80
 go_wp2_with (first | ((with_reducible show wkq (.load 28 _) _);refine lr 28 w.heap.size X HX.o HIN.o ?_) | (go_at_call 46;(with_reducible refine (HRI.o _ HF.o).mono ?_);rintro e w2 ⟨rfl, hf2⟩;have HR2 := kq0 hf2 HR;have HG2 := kq0 hf2 HG;have HX2 := kq0 hf2 HX;have HF2 := fq0 HF hf2;have c20 := g0 _ HG2.o;have f20 := Bk.free HG2.o 0;clear hf2))
 have hG1 : w.heap.size + 1 < w.heap.size + 1 + 1 := by omega
 have HG3 : Jq7 (Bk (w2.setCell ⟨w.heap.size + 1 + 1, 0, none⟩ (.int .u8 109)) (w.heap.size + 1 + 1) (L0.map B).toArray 36) := jq7 (by have := Bk.set HG2.o 0 (.int .u8 109);rwa [l0_set] at this)
 have HX3 : Jq7 (Bk (w2.setCell ⟨w.heap.size + 1 + 1, 0, none⟩ (.int .u8 109)) w.heap.size X 28) := jq7 (Bk.setOther HX2.o _ _ (by show w.heap.size ≠ w.heap.size + 1 + 1;omega))
 have HR3 : Jq7 (Bk (w2.setCell ⟨w.heap.size + 1 + 1, 0, none⟩ (.int .u8 109)) (w.heap.size + 1) ZB 36) := jq7 (Bk.setOther HR2.o _ _ (by show w.heap.size + 1 ≠ w.heap.size + 1 + 1;omega))
 have HF3 : Jq7 (Fr0 w (w2.setCell ⟨w.heap.size + 1 + 1, 0, none⟩ (.int .u8 109))) := jq7 (Fr.set HF2.o _ _ (.inl (by show w.heap.size ≤ w.heap.size + 1 + 1;omega)))
 clear c20 f20 HX2 HR2 HF2 HG2 HX HR HF HRI HIN g0 HG
 generalize w2.setCell ⟨w.heap.size + 1 + 1, 0, none⟩ (.int .u8 109) = w3 at *
 generalize w.heap.size + 1 + 1 = G at *
 have c0 : w3.cell? ⟨w.heap.size, 0, none⟩ = some (.int .i64 (gn : Int)) := (Bk.cell HX3.o 0).trans HP0.o
 go_still_tail 3, (by kernel_rfl)
 have HG4 := HG3
 have HX4 := HX3
 have HR4 := HR3
 have HF4 : Jq7 (Fr0 w w3.drew) := jq7 (Fr.drew HF3.o)
 clear HG3 HX3 HR3 HF3
 change wpList _ _ _ _ _ w3.drew
 change Jq7 (Bk w3.drew _ _ _) at HG4 HX4 HR4
 generalize w3.drew = w4 at *
 go_wp2_with (first | (go_at_call 96;(with_reducible refine (HW1.o G _ HG4.o).mono ?_);rintro e w5 ⟨rfl, hb_, hf_⟩;have HG5 := jq7 hb_;have HX5 := jq7 (hf_.keep HX4.o (by omega));have HR5 := jq7 (hf_.keep HR4.o (by omega));have HF5 : Jq7 (Fr0 w w5) := jq7 (Fr.newG HF4.o hf_ (by omega));have c57 : w5.cell? ⟨w.heap.size, 1, none⟩ = some (.slice a m.ps.length c) := (Bk.cell HX5.o 1).trans HP1.o;obtain ⟨v9, c59⟩ : ∃ v, w5.cell? ⟨G, 9, none⟩ = some v := ⟨_, (Bk.cell HG5.o 9).trans (Array.getElem?_eq_getElem (by simp [L1_len]))⟩;have f59 := Bk.free HG5.o 9;clear hb_ hf_))
 have HG6 : Jq7 (Bk (w5.setCell ⟨G, 9, none⟩ (.int .u8 (m.ps.length : Int))) G ((bodyB m 0).map B).toArray 36) := jq7 (by have := Bk.set HG5.o 9 (.int .u8 (m.ps.length : Int));rwa [body_set m hlen] at this)
 have HX6 : Jq7 (Bk (w5.setCell ⟨G, 9, none⟩ (.int .u8 (m.ps.length : Int))) w.heap.size X 28) := jq7 (Bk.setOther HX5.o _ _ (by show w.heap.size ≠ G;omega))
 have HR6 : Jq7 (Bk (w5.setCell ⟨G, 9, none⟩ (.int .u8 (m.ps.length : Int))) (w.heap.size + 1) ZB 36) := jq7 (Bk.setOther HR5.o _ _ (by show w.heap.size + 1 ≠ G;omega))
 have HF6 : Jq7 (Fr0 w (w5.setCell ⟨G, 9, none⟩ (.int .u8 (m.ps.length : Int)))) := jq7 (Fr.set HF5.o _ _ (.inl (by show w.heap.size ≤ G;omega)))
 clear c57 c59 f59 HG5 HX5 HR5 HF5
 generalize w5.setCell ⟨G, 9, none⟩ (.int .u8 (m.ps.length : Int)) = w6 at *
 go_loopw [7] (fun jj W => ∃ j : Nat, j ≤ m.ps.length ∧ jj = .int .i64 j ∧ Bk W G ((bodyB m j).map B).toArray 36 ∧ Bk W w.heap.size X 28 ∧ Bk W (w.heap.size + 1) ZB 36 ∧ Fr0 w W) (fun jj _ => m.ps.length - (intOf jj).toNat)
 case atStart => exact ⟨0, Nat.zero_le _, rfl, HG6.o, HX6.o, HR6.o, HF6.o⟩
 case round =>
  obtain ⟨j, hj, rfl, hg, hx, hr, hF⟩ := hrel
  have cx : wr.cell? ⟨w.heap.size, 1, none⟩ = some (.slice a m.ps.length c) := (Bk.cell hx 1).trans HP1.o
  by_cases hjl : j < m.ps.length
  ·obtain ⟨b2, o2, rfl, hat⟩ := RdP.form HV.o.rd hjl
   have HAT := jq7 hat
   obtain ⟨f, t, hft, hf1, hf2⟩ := HPR.o j hjl
   have hs1 := step1 m m.ps[j].1 hj
   have hs2 := step2 m hjl
   have ca := (hat _ (HV.o.rd.keep hF)).2.1
   rw [hft] at hs1 hs2 ca
   rw [Int.toNat_natCast] at hs1
   simp only [Int.toNat_natCast] at hs2
   have HTT : Jq7 (m.ps[j].2 = (t : Int)) := jq7 (by rw [hft])
   have HWA : Jq7 (∀ W, Bk W G ((bodyB m j).map B).toArray 36 → Calls Tryz.prog 96 #[.slice (some ⟨G, 0, none⟩) 128 128, .int .i64 (10 + 4 * (j : Int)), .int .i64 2, .int .i64 (f : Int)] W fun e w' => e = .returned (.int .i64 0) ∧ Bk w' G ((halfB m j (f : Int)).map B).toArray 36 ∧ Fr (fun i => i = G) W w') := jq7 (fun W h => by have := rwput_l (p := 10 + 4 * j) (wd := 2) W (bodyB_len m hj hlen) (by omega) (fits2 (by omega)) (by omega) hs1 h;rwa [show ((10 + 4 * j : Nat) : Int) = 10 + 4 * (j : Int) by omega] at this)
   have HWB : Jq7 (∀ W, Bk W G ((halfB m j (f : Int)).map B).toArray 36 → Calls Tryz.prog 96 #[.slice (some ⟨G, 0, none⟩) 128 128, .int .i64 (12 + 4 * (j : Int)), .int .i64 2, .int .i64 (t : Int)] W fun e w' => e = .returned (.int .i64 0) ∧ Bk w' G ((bodyB m (j + 1)).map B).toArray 36 ∧ Fr (fun i => i = G) W w') := jq7 (fun W h => by have := rwput_l (p := 12 + 4 * j) (wd := 2) W (halfB_len m _ hj hlen) (by omega) (fits2 (by omega)) (by omega) hs2 h;rwa [show ((12 + 4 * j : Nat) : Int) = 12 + 4 * (j : Int) by omega] at this)
   have HG1 := jq7 hg
   have HX1 := jq7 hx
   have HR1 := jq7 hr
   have HF1 := jq7 hF
   clear hat hg hx hr hF hft hs1 hs2
   have hw4 : IntKind.i64.wrap (4 * (j : Int)) = 4 * (j : Int) := wr_i _ (by omega) (by omega)
   have hw10 : IntKind.i64.wrap (10 + 4 * (j : Int)) = 10 + 4 * (j : Int) := wr_i _ (by omega) (by omega)
   have hw12 : IntKind.i64.wrap (12 + 4 * (j : Int)) = 12 + 4 * (j : Int) := wr_i _ (by omega) (by omega)
   go_wp2
   go_still_tail 10, (by kernel_rfl)
   change wpList _ _ _ _ _ wr.drew
   have HGd : Jq7 (Bk wr.drew G ((bodyB m j).map B).toArray 36) := jq7 HG1.o
   have HXd : Jq7 (Bk wr.drew w.heap.size X 28) := jq7 HX1.o
   have HRd : Jq7 (Bk wr.drew (w.heap.size + 1) ZB 36) := jq7 HR1.o
   have HFd : Jq7 (Fr0 w wr.drew) := jq7 (Fr.drew HF1.o)
   clear HG1 HX1 HR1 HF1 cx ca
   generalize wr.drew = wd at *
   go_wp2_with (first | (go_at_call 96;(with_reducible refine (HWA.o  _ HGd.o).mono ?_);rintro e we ⟨rfl, hb_, hf_⟩;have HGe := jq7 hb_;have HXe := jq7 (hf_.keep HXd.o (by omega));have HRe := jq7 (hf_.keep HRd.o (by omega));have HFe : Jq7 (Fr0 w we) := jq7 (Fr.newG HFd.o hf_ (by omega));have ce : we.cell? ⟨w.heap.size, 1, none⟩ = some (.slice (some ⟨b2, o2, none⟩) m.ps.length c) := (Bk.cell HXe.o 1).trans HP1.o;have cb : we.cell? ⟨b2, o2 + j * 2 + 1, none⟩ = some (.int .i64 (t : Int)) := (HAT.o _ (HV.o.rd.keep HFe.o)).2.2.trans (by rw [HTT.o]);clear hb_ hf_))
   go_still_tail 10, (by kernel_rfl)
   change wpList _ _ _ _ _ we.drew
   have HGg : Jq7 (Bk we.drew G ((halfB m j (f : Int)).map B).toArray 36) := jq7 HGe.o
   have HXg : Jq7 (Bk we.drew w.heap.size X 28) := jq7 HXe.o
   have HRg : Jq7 (Bk we.drew (w.heap.size + 1) ZB 36) := jq7 HRe.o
   have HFg : Jq7 (Fr0 w we.drew) := jq7 (Fr.drew HFe.o)
   clear HGe HXe HRe HFe HGd HXd HRd HFd ce cb
   generalize we.drew = wg at *
   go_wp2_with (first | (go_at_call 96;(with_reducible refine (HWB.o  _ HGg.o).mono ?_);rintro e wh ⟨rfl, hb_, hf_⟩;have HGh := jq7 hb_;have HXh := jq7 (hf_.keep HXg.o (by omega));have HRh := jq7 (hf_.keep HRg.o (by omega));have HFh : Jq7 (Fr0 w wh) := jq7 (Fr.newG HFg.o hf_ (by omega));clear hb_ hf_))
   go_roundw
   case rel => exact ⟨j + 1, by omega, by go_num, HGh.o, HXh.o, HRh.o, HFh.o⟩
   case measure => simp [intOf];omega
  ·have hje : j = m.ps.length := by omega
   subst hje
   have HG8 := jq7 hg
   have HR8 := jq7 hr
   have HF8 := jq7 hF
   have hbl := bodyB_len m (Nat.le_refl _) hlen
   have HSE : Jq7 (Calls Tryz.prog 97 #[.agg ((bodyB m m.ps.length).map B).toArray] wr fun e w' => e = .returned (.agg ((tabL m).map B).toArray) ∧ Fr0 wr w') := jq7 (seal_calls _ wr hbl)
   have HTL := jq7 (tabL_len m hlen)
   have HBL := jq7 hbl
   clear hg hx hr hF hbl
   go_wp2_with (first | ((with_reducible show wkq (.load 36 _) _);refine lr 36 G ((bodyB m m.ps.length).map B).toArray HG8.o (info_l HBL.o) ?_) | (go_at_call 97;(with_reducible refine (HSE.o).mono ?_);rintro e w9 ⟨rfl, hf9⟩;have HR9 := kq0 hf9 HR8;have HF9 := fq0 HF8 hf9;clear hf9) | ((with_reducible show wkq (.store 36 _ _) _);refine wpList_store_row rfl 36 _ _ rfl (w.heap.size + 1) ((tabL m).map B).toArray rfl rfl 36 ZB HR9.o (info_l HTL.o) (size_l HTL.o) (one_l _) ?_))
   refine fin_ct (w.heap.size + 1) 36 ((tabL m).map B).toArray (.int .i64 0) (by rfl) (by rfl) (by rfl) (by rfl) Tryz.underlying36 (by rfl) (info_l HTL.o) (ArrKit.Bk.row HR9.o _) ?_
   exact ⟨rfl, ArrKit.Fr.row HF9.o _ _ (.inl (by omega))⟩
theorem rput_calls (m : Rm) (a : Option Addr) (c : Nat) (s : Int) (w : World) (hok : m.ok) (hv : RV w m a c) (hs : (Lit.int .i64 s).wf = true) : Calls Tryz.prog 80 #[.agg (rval m a c), .int .i64 s] w fun e w' => e = .returned (.tuple #[.agg ((tabX m s).map B).toArray, .int .i64 (tabE m s)]) ∧ Fr0 w w' := by
 unfold tabX tabE
 cases ht : tabB m s with
 | false => exact rput_no m a c s w hok hv hs ht
 | true => exact rput_yes m a c s w hok hv hs ht

end Go.Proofs.YtmkmpfnadcmcoaaGreatDoor.RmRPut
