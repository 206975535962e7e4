/- The fixed fact of the law: the walk of alive. -/
import Derived.Test.YtlleandelcjhjaaDoorRmAliveP
set_option maxRecDepth 100000
set_option linter.unusedVariables false
set_option linter.unusedSimpArgs false
namespace Go.Proofs.YtlleandelcjhjaaDoor.RmAlive
open Go Go.RowKit Go.Proofs.YtlleandelcjhjaaDoor.K Go.Proofs.YtlleandelcjhjaaDoor.EqKit Go.Proofs.YtlleandelcjhjaaDoor.ArrKit Go.Proofs.YtlleandelcjhjaaDoor.HeldKit Go.Proofs.YtlleandelcjhjaaDoor.GKit Go.Proofs.YtlleandelcjhjaaDoor.GRow Go.Proofs.YtlleandelcjhjaaDoor.DiskKit Go.Proofs.YtlleandelcjhjaaDoor.RmKit Go.Proofs.YtlleandelcjhjaaDoor.MapKit Go.Proofs.YtlleandelcjhjaaDoor.RmRight Go.Proofs.YtlleandelcjhjaaDoor.RmRRight Go.Proofs.YtlleandelcjhjaaDoor.RmTab Go.Proofs.YtlleandelcjhjaaDoor.RmPut Go.Proofs.YtlleandelcjhjaaDoor.RmAsk Go.Proofs.YtlleandelcjhjaaDoor.RmSame Go.Proofs.YtlleandelcjhjaaDoor.DiskRRead Go.Proofs.YtlleandelcjhjaaDoor.RmRead Go.Proofs.YtlleandelcjhjaaDoor.RmReads Go.Proofs.YtlleandelcjhjaaDoor.DiskAct Go.Proofs.YtlleandelcjhjaaDoor.RmSpare Go.Proofs.YtlleandelcjhjaaDoor.RmKeep Go.Proofs.YtlleandelcjhjaaDoor.RmFirst Go.Proofs.YtlleandelcjhjaaDoor.RmFormat Go.Proofs.YtlleandelcjhjaaDoor.DiskNew Go.Proofs.YtlleandelcjhjaaDoor.DiskHit Go.Proofs.YtlleandelcjhjaaDoor.DiskLay Go.Proofs.YtlleandelcjhjaaDoor.RmAliveP

theorem built_b7 : Tryd.prog.built 27 [(0, .int .u8 7)] = some (B7.map B).toArray := by kernel_rfl
theorem zero_d (W : World) : (zeroValue 39).run Tryd.prog W = .ok (.agg DZ) W := by kernel_rfl
set_option maxHeartbeats 2000000 in
set_option maxRecDepth 100000 in
theorem alive_calls (w : World) (hsh : Sh w) : Calls Tryd.prog 9 #[] w fun e w' => e = .returned (.bool true) ∧ Fr0 w w' := by
  have HSH := Lib.hid hsh
  clear hsh
  have hzd := zero_d
  have hzr := zero_r
  have hzb := zero_bl
  have HT := Lib.hid (tabL_len MA (by decide))
  have HU := Lib.hid (tabL_len MB (by decide))
  have HNE : Hid (∀ W, Calls Tryd.prog 32 #[.int .i64 28] W fun e w' => ∃ sa sc ca cc, e = .returned (.tuple #[.agg (dval E0 sa sc ca cc), .int .i64 0]) ∧ DV w' E0 sa sc ca cc ∧ Fr0 W w') := Lib.hid (fun W => DiskNew.new_calls 28 W)
  have O0 := Lib.hid (newD_ok 28)
  have O2 := Lib.hid (writeD_ok (q := 4) (writeD_ok (q := 0) O0.out HT.out (by decide)) HT.out (by decide))
  have O1 := Lib.hid (flushD_ok O2.out)
  have OC2 : Hid ((C2 (tabL MA)).ok) := Lib.hid (hitD_ok O1.out 2 3 0 0)
  have OC3 : Hid ((C3 (tabL MA)).ok) := Lib.hid (writeD_ok (q := 8) (writeD_ok (q := 2) OC2.out B7_len (by decide)) B7_len (by decide))
  have OC3f : Hid ((C3f (tabL MA)).ok) := Lib.hid (flushD_ok OC3.out)
  have OC4 : Hid ((C4 (tabL MA) (tabL MB)).ok) := Lib.hid (flushD_ok (writeD_ok (q := 5) (writeD_ok (q := 1) OC3f.out HU.out (by decide)) HU.out (by decide)))
  have HFO : Hid (∀ p sa sc ca cc W, Fr0 w W → DAt W p E0 sa sc ca cc → Calls Tryd.prog 33 #[.pointer (some ⟨p, 0, none⟩)] W fun e w' => e = .returned (.tuple #[.agg RZ, .int .i64 0]) ∧ DIn w' p (C1 (tabL MA)) ∧ Fr (fun i => i = p) W w') := Lib.hid (fun p sa sc ca cc W f h => format_calls p E0 sa sc ca cc 4 W O0.out h (HSH.out.keep0 f) (by rw [p_c0]; omega) p_h (by decide) (by decide) (by rw [p_s0]; decide) p_w0 (p_w1 _) (p_f1 _) O1.out)
  have HHI : Hid (∀ p sa sc ca cc W, DAt W p (C1 (tabL MA)) sa sc ca cc → Calls Tryd.prog 34 #[.pointer (some ⟨p, 0, none⟩), .int .i64 2, .int .i64 3, .int .i64 0, .int .u8 0] W fun e w' => e = .returned (.int .i64 0) ∧ Now W w' p (C2 (tabL MA))) := Lib.hid (fun p sa sc ca cc W h => by have := DiskHit.hit_calls p 2 3 0 0 (C1 (tabL MA)) sa sc ca cc W O1.out h; rw [p_hit] at this; exact this)
  have HKX : Hid (keepX (C3f (tabL MA)) MB = (0, C4 (tabL MA) (tabL MB))) := Lib.hid (by
    have := @keepX_f (C3f (tabL MA)) MB 0 0 1 5 (C4a (tabL MA) (tabL MB)) (C4b (tabL MA) (tabL MB)) (by rw [p_s3f]; exact p_tab) rfl (by rw [p_s3f]; rfl) (p_k1 _) rfl (p_k2 _ _) rfl (.inl rfl) (.inl rfl) (by decide)
    rw [p_k3] at this
    exact this)
  have HWR : Hid (∀ p r sa sc ca cc W, Fr0 w W → DAt W p (C2 (tabL MA)) sa sc ca cc → Bk W r RZ 24 → r ≠ p → Calls Tryd.prog 25 #[.pointer (some ⟨p, 0, none⟩), .pointer (some ⟨r, 0, none⟩), .int .i64 2, .agg (B7.map B).toArray] W fun e w' => e = .returned (.int .i64 0) ∧ DIn w' p (C4 (tabL MA) (tabL MB)) ∧ (∃ g' cap cur, Bk w' r (RC 1 (.slice (some ⟨g', 0, none⟩) 1 cap)) 24 ∧ OwnP w' g' cap cur [(2, 8)]) ∧ Fr (fun i => i = p ∨ i = r) W w') := Lib.hid (fun p r sa sc ca cc W f h hb hne =>
    first_calls p r (C2 (tabL MA)) sa sc ca cc 0 2 8 B7 (C3 (tabL MA)) (C4 (tabL MA) (tabL MB)) W OC2.out h B7_len hb hne (HSH.out.keep0 f) (by decide) (by decide) (by decide) (by rw [p_c2]; omega) (by rw [p_s2]; decide) (p_ask _) (p_w2 _) (by rw [p_s2]; exact p_sp _) OC3.out (by rw [p_s2, p_s3]) (p_f3 _) OC3f.out (by rw [p_s2]; exact p_s3f _) (by show (C3f (tabL MA)).C.length ≤ 2000; rw [p_c3f]; omega) HKX.out OC4.out)
  have OMB : Hid (MB.ok) := Lib.hid ⟨by decide, fun x hx => by simp only [MB, List.mem_cons, List.not_mem_nil, or_false] at hx; subst hx; decide⟩
  have HRE : Hid (∀ p sa sc ca cc a c W, DAt W p (C4 (tabL MA) (tabL MB)) sa sc ca cc → RV W MB a c → Calls Tryd.prog 22 #[.pointer (some ⟨p, 0, none⟩), .agg (RC 1 (.slice a 1 c)), .int .i64 2] W fun e w' => e = .returned (.tuple #[.agg (B7.map B).toArray, .int .i64 0]) ∧ Fr0 W w') := Lib.hid (fun p sa sc ca cc a c W h hr => by
    have := rmread_calls p (C4 (tabL MA) (tabL MB)) sa sc ca cc MB a c 2 W OC4.out h OMB.out hr (by decide)
    unfold rdX at this
    rw [p_ask4, if_pos rfl, p_at, p_rd] at this
    exact this)
  have HAT : Hid (∀ a c W, RV W MB a c → Calls Tryd.prog 15 #[.agg (RC 1 (.slice a 1 c)), .int .i64 2] W fun e w' => e = .returned (.int .i64 8) ∧ Fr0 W w') := Lib.hid (fun a c W hr => at_calls MB a c 2 W hr (by decide))
  have HHA : Hid (∀ W, Calls Tryd.prog 17 #[.int .i64 28] W fun e w' => e = .returned (.int .i64 4) ∧ w' = W) := Lib.hid (fun W => half_calls 28 W (by decide))
  have HID : Hid (∀ a b c e, (Tryd.prog.info? 39).map (·.size) = some (dval E0 a b c e).size) := Lib.hid (fun _ _ _ _ => info_d)
  have HDO : Hid (∀ a b c e, (dval E0 a b c e).all (·.oneCell') = true) := Lib.hid (fun _ _ _ _ => dval_one _ _ _ _ _)
  have HIR : Hid ((Tryd.prog.info? 24).map (·.size) = some RZ.size) := Lib.hid (info_r _ _)
  have HIR2 : Hid (∀ x y, (Tryd.prog.info? 24).map (·.size) = some (RC x y).size) := Lib.hid (fun _ _ => info_r _ _)
  have HIB := Lib.hid (info_l B7_len)
  have HSB := Lib.hid (size_l B7_len)
  have HOB := Lib.hid (one_l B7)
  have HB7 : Hid ((B7.map B).toArray[0]? = some (.int .u8 7)) := Lib.hid (by kernel_rfl)
  have HBB := Lib.hid built_b7
  clear O0 O2 O1 OC2 OC3 OC3f OC4 HKX OMB HT HU
  generalize (B7.map B).toArray = X7 at *
  generalize C1 (tabL MA) = dA at *
  generalize C2 (tabL MA) = dB at *
  generalize C4 (tabL MA) (tabL MB) = dC at *
  go_enter Tryd.func9, Tryd.ntmps9
  go_wp2_with (first | (go_at_call 32; (with_reducible refine (HNE.out _).mono ?_); rintro e w1 ⟨sa, sc, ca, cc, rfl, hv1, hf1⟩; have HV1 := Lib.hid hv1; have HF1 := Lib.hid hf1; have HZ1 := Lib.hid (Bk.new w1 (.cells DZ 39)); have hf2 : Fr0 w1 ((w1.alloc (.cells DZ 39)).setRow w1.heap.size (dval E0 sa sc ca cc)) := ArrKit.Fr.row (Fr.alloc (Fr.refl _ _) _) _ _ (.inl (Nat.le_refl _)); have HA2 : Hid (DAt ((w1.alloc (.cells DZ 39)).setRow w1.heap.size (dval E0 sa sc ca cc)) w1.heap.size E0 sa sc ca cc) := Lib.hid ⟨ArrKit.Bk.row HZ1.out _, hv1.keep hf2⟩; have HF2 : Hid (Fr0 w ((w1.alloc (.cells DZ 39)).setRow w1.heap.size (dval E0 sa sc ca cc))) := Lib.hid (hf1.then0 hf2); have HPG : Hid (w.heap.size ≤ w1.heap.size) := Lib.hid hf1.size; clear hv1 hf1 hf2) | ((with_reducible show wpList _ _ _ ({ dst := _, op := Op.store 39 _ _, type := _, pos := _, after := _, guard := _ } :: _) _ _); refine wpList_store_row rfl 39 _ _ rfl w1.heap.size (dval E0 sa sc ca cc) rfl rfl 39 DZ HZ1.out (HID.out _ _ _ _) rfl (HDO.out _ _ _ _) ?_) | (go_at_call 33; (with_reducible refine (HFO.out _ _ _ _ _ _ HF2.out HA2.out).mono ?_); rintro e w3 ⟨rfl, ⟨s3, n3, c3, m3, hv3⟩, hf3⟩; have HF3 : Hid (Fr0 w w3) := Lib.hid (Fr.newG HF2.out hf3 HPG.out); have HZ3 := Lib.hid (Bk.new w3 (.cells RZ 24)); have hf4 : Fr0 w3 ((w3.alloc (.cells RZ 24)).setRow w3.heap.size RZ) := ArrKit.Fr.row (Fr.alloc (Fr.refl _ _) _) _ _ (.inl (Nat.le_refl _)); have HA4 := Lib.hid (hv3.keep hf4); have HR4 : Hid (Bk ((w3.alloc (.cells RZ 24)).setRow w3.heap.size RZ) w3.heap.size RZ 24) := Lib.hid (ArrKit.Bk.row HZ3.out _); have HF4 := Lib.hid (HF3.out.then0 hf4); have HNP : Hid (w3.heap.size ≠ w1.heap.size) := Lib.hid (by have := Bk.lt hv3.blk; omega); have HRG : Hid (w.heap.size ≤ w3.heap.size) := Lib.hid HF3.out.size; clear hv3 hf3 hf4) | ((with_reducible show wpList _ _ _ ({ dst := _, op := Op.store 24 _ _, type := _, pos := _, after := _, guard := _ } :: _) _ _); refine wpList_store_row rfl 24 _ _ rfl w3.heap.size RZ rfl rfl 24 RZ HZ3.out HIR.out rfl (RC_all _ _ _ _) ?_) | (go_at_call 34; (with_reducible refine (HHI.out _ _ _ _ _ _ HA4.out).mono ?_); rintro e w5 ⟨rfl, ⟨s5, n5, c5, m5, hv5⟩, hf5⟩; have HV5 := Lib.hid hv5; have HR5 := Lib.hid (hf5.keep HR4.out HNP.out); have HF5 : Hid (Fr0 w w5) := Lib.hid (Fr.newG HF4.out hf5 HPG.out); clear hv5 hf5) | ((with_reducible show wpList _ _ _ ({ dst := _, op := Op.build 27 _, type := _, pos := _, after := _, guard := _ } :: _) _ _); refine build_ev rfl 27 _ rfl [(0, .int .u8 7)] (by simp [Act.eval, Act.put]) X7 HBB.out ?_) | (go_at_call 25; (with_reducible refine (HWR.out _ _ _ _ _ _ _ HF5.out HV5.out HR5.out HNP.out).mono ?_); rintro e w6 ⟨rfl, ⟨s6, n6, c6, m6, hv6⟩, ⟨g6, k6, cur6, hr6, ho6⟩, hf6⟩; have HV6 := Lib.hid hv6; have HR6 := Lib.hid hr6; have HRV6 : Hid (RV w6 MB (some ⟨g6, 0, none⟩) k6) := Lib.hid ⟨OwnG.rd ho6, OwnG.room ho6, OwnG.max ho6⟩; have HF6 : Hid (Fr0 w w6) := Lib.hid (HF5.out.then hf6 (fun i hi e => by rcases e with e | e; exact absurd hi (by have := HPG.out; omega); exact absurd hi (by have := HRG.out; omega))); clear hv6 hr6 ho6 hf6) | ((with_reducible show wpList _ _ _ ({ dst := _, op := Op.load 24 _, type := _, pos := _, after := _, guard := _ } :: _) _ _); refine wpList_load_row_g (by rfl) 24 _ rfl w3.heap.size rfl 24 (RC 1 (.slice (some ⟨g6, 0, none⟩) 1 k6)) (0, 0) _ HR8.out Tryd.underlying24 rfl (HIR2.out _ _) ?_) | ((with_reducible show wpList _ _ _ ({ dst := _, op := Op.load 24 _, type := _, pos := _, after := _, guard := _ } :: _) _ _); refine wpList_load_row_g (by rfl) 24 _ rfl w3.heap.size rfl 24 (RC 1 (.slice (some ⟨g6, 0, none⟩) 1 k6)) (0, 0) _ HR6.out Tryd.underlying24 rfl (HIR2.out _ _) ?_) | (go_at_call 22; (with_reducible refine (HRE.out _ _ _ _ _ _ _ _ HV6.out HRV6.out).mono ?_); rintro e w7 ⟨rfl, hf7⟩; have HZ7 := Lib.hid (Bk.new w7 (.cells ZB 27)); have hf8 : Fr0 w6 ((w7.alloc (.cells ZB 27)).setRow w7.heap.size X7) := hf7.then0 (ArrKit.Fr.row (Fr.alloc (Fr.refl _ _) _) _ _ (.inl (Nat.le_refl _))); have HR8 := Lib.hid (hf8.keep HR6.out (fun h => h)); have HRV8 := Lib.hid (HRV6.out.keep hf8); have HF8 := Lib.hid (HF6.out.then0 hf8); have e8 : (((w7.alloc (.cells ZB 27)).setRow w7.heap.size X7)).cell? ⟨w7.heap.size, 0, none⟩ = some (.int .u8 7) := (Bk.cell (ArrKit.Bk.row HZ7.out X7) 0).trans HB7.out; clear hf7 hf8) | ((with_reducible show wpList _ _ _ ({ dst := _, op := Op.store 27 _ _, type := _, pos := _, after := _, guard := _ } :: _) _ _); refine wpList_store_row rfl 27 _ _ rfl w7.heap.size X7 rfl rfl 27 ZB HZ7.out HIB.out HSB.out HOB.out ?_) | (go_at_call 15; (with_reducible refine (HAT.out _ _ _ HRV8.out).mono ?_); rintro e w9 ⟨rfl, hf9⟩; have HFZ := Lib.hid (HF8.out.then0 hf9); clear hf9) | (go_at_call 17; (with_reducible refine (HHA.out _).mono ?_); rintro e wx ⟨rfl, rfl⟩))
  go_ret
  exact ⟨rfl, HFZ.out⟩

end Go.Proofs.YtlleandelcjhjaaDoor.RmAlive
