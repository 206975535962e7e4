/- The theorems that the claim uses, text behind text (part 20). -/
import Derived.Test.YtlleandelcjhjaaDoorZab
import Derived.Test.YtlleandelcjhjaaDoorZad
import Derived.Test.YtlleandelcjhjaaDoorZak
import Derived.Test.YtlleandelcjhjaaDoorZar
import Derived.Test.YtlleandelcjhjaaDoorZas
set_option maxRecDepth 100000
set_option linter.unusedVariables false
set_option linter.unusedSimpArgs false
namespace Go.Proofs.YtlleandelcjhjaaDoor.RmAliveP
open Go Go.RowKit Go.Proofs.YtlleandelcjhjaaDoor.K Go.Proofs.YtlleandelcjhjaaDoor.EqKit Go.Proofs.YtlleandelcjhjaaDoor.ArrKit Go.Proofs.YtlleandelcjhjaaDoor.HeldKit Go.Proofs.YtlleandelcjhjaaDoor.GKit Go.Proofs.YtlleandelcjhjaaDoor.GRow Go.Proofs.YtlleandelcjhjaaDoor.DiskKit Go.Proofs.YtlleandelcjhjaaDoor.RmKit Go.Proofs.YtlleandelcjhjaaDoor.MapKit Go.Proofs.YtlleandelcjhjaaDoor.RmRight Go.Proofs.YtlleandelcjhjaaDoor.RmRRight Go.Proofs.YtlleandelcjhjaaDoor.RmTab Go.Proofs.YtlleandelcjhjaaDoor.RmPut Go.Proofs.YtlleandelcjhjaaDoor.RmAsk Go.Proofs.YtlleandelcjhjaaDoor.RmSame Go.Proofs.YtlleandelcjhjaaDoor.DiskRRead Go.Proofs.YtlleandelcjhjaaDoor.RmRead Go.Proofs.YtlleandelcjhjaaDoor.RmReads Go.Proofs.YtlleandelcjhjaaDoor.DiskAct Go.Proofs.YtlleandelcjhjaaDoor.RmSpare Go.Proofs.YtlleandelcjhjaaDoor.RmKeep Go.Proofs.YtlleandelcjhjaaDoor.RmFirst Go.Proofs.YtlleandelcjhjaaDoor.RmFormat Go.Proofs.YtlleandelcjhjaaDoor.DiskNew Go.Proofs.YtlleandelcjhjaaDoor.DiskHit Go.Proofs.YtlleandelcjhjaaDoor.DiskLay
theorem flushD_ok {d : Dk} (h : d.ok) : (flushD d).ok := by
  unfold flushD
  split
  · exact h
  · split
    · exact actD_ok h
    · exact layD_ok (actD_ok h) _
def B7 : List UInt8 := 7 :: List.replicate 127 0
theorem B7_len : B7.length = 128 := by simp [B7]
def MA : Rm := ⟨0, []⟩
def MB : Rm := ⟨1, [(2, 8)]⟩
def E0 : Dk := newD 28
def E1 (T : List UInt8) : Dk := writeD E0 0 T
def E2 (T : List UInt8) : Dk := writeD (E1 T) 4 T
def C1 (T : List UInt8) : Dk := flushD (E2 T)
def C2 (T : List UInt8) : Dk := hitD (C1 T) 2 3 0 0
def C2b (T : List UInt8) : Dk := writeD (C2 T) 2 B7
def C3 (T : List UInt8) : Dk := writeD (C2b T) 8 B7
def C3f (T : List UInt8) : Dk := flushD (C3 T)
def C4a (T U : List UInt8) : Dk := writeD (C3f T) 1 U
def C4b (T U : List UInt8) : Dk := writeD (C4a T U) 5 U
def C4 (T U : List UInt8) : Dk := flushD (C4b T U)
section
variable (T U : List UInt8)
theorem p_h : hvI E0 = 4 := by kernel_rfl
theorem p_s0 : E0.S.length = 28 := by kernel_rfl
theorem p_c0 : E0.C.length = 0 := by kernel_rfl
theorem p_w0 : writeE E0 0 = 0 := by kernel_rfl
theorem p_w1 : writeE (E1 T) 4 = 0 := by kernel_rfl
theorem p_f1 : flushE (E2 T) = 0 := by kernel_rfl
theorem p_hit : hitE (C1 T) 2 3 0 = 0 := by kernel_rfl
theorem p_s2 : (C2 T).S.length = 28 := by kernel_rfl
theorem p_c2 : (C2 T).C.length = 0 := by kernel_rfl
theorem p_ask : askedB (C2 T) MA 2 = true := by kernel_rfl
theorem p_w2 : writeE (C2 T) 2 = 2 := by kernel_rfl
theorem p_sp : spareR MA B7 20 8 (C2b T) = (8, 0, C3 T) := by kernel_rfl
theorem p_s3 : (C3 T).S.length = 28 := by kernel_rfl
theorem p_f3 : flushE (C3 T) = 0 := by kernel_rfl
theorem p_s3f : (C3f T).S.length = 28 := by kernel_rfl
theorem p_c3f : (C3f T).C.length = 0 := by kernel_rfl
theorem p_tab : tabB MB 28 = true := by kernel_rfl
theorem p_k1 : writeE (C3f T) 1 = 0 := by kernel_rfl
theorem p_k2 : writeE (C4a T U) 5 = 0 := by kernel_rfl
theorem p_k3 : flushE (C4b T U) = 0 := by kernel_rfl
theorem p_ask4 : askedB (C4 T U) MB 2 = true := by kernel_rfl
theorem p_at : atI MB 2 = 8 := by kernel_rfl
theorem p_rd : readX (C4 T U) 8 = (B7, 0) := by kernel_rfl
end
end Go.Proofs.YtlleandelcjhjaaDoor.RmAliveP
namespace Go.Proofs.YtlleandelcjhjaaDoor.RmAlive
open Go Go.RowKit Go.Proofs.YtlleandelcjhjaaDoor.K Go.Proofs.YtlleandelcjhjaaDoor.EqKit Go.Proofs.YtlleandelcjhjaaDoor.ArrKit Go.Proofs.YtlleandelcjhjaaDoor.HeldKit Go.Proofs.YtlleandelcjhjaaDoor.GKit Go.Proofs.YtlleandelcjhjaaDoor.GRow Go.Proofs.YtlleandelcjhjaaDoor.DiskKit Go.Proofs.YtlleandelcjhjaaDoor.RmKit Go.Proofs.YtlleandelcjhjaaDoor.MapKit Go.Proofs.YtlleandelcjhjaaDoor.RmRight Go.Proofs.YtlleandelcjhjaaDoor.RmRRight Go.Proofs.YtlleandelcjhjaaDoor.RmTab Go.Proofs.YtlleandelcjhjaaDoor.RmPut Go.Proofs.YtlleandelcjhjaaDoor.RmAsk Go.Proofs.YtlleandelcjhjaaDoor.RmSame Go.Proofs.YtlleandelcjhjaaDoor.DiskRRead Go.Proofs.YtlleandelcjhjaaDoor.RmRead Go.Proofs.YtlleandelcjhjaaDoor.RmReads Go.Proofs.YtlleandelcjhjaaDoor.DiskAct Go.Proofs.YtlleandelcjhjaaDoor.RmSpare Go.Proofs.YtlleandelcjhjaaDoor.RmKeep Go.Proofs.YtlleandelcjhjaaDoor.RmFirst Go.Proofs.YtlleandelcjhjaaDoor.RmFormat Go.Proofs.YtlleandelcjhjaaDoor.DiskNew Go.Proofs.YtlleandelcjhjaaDoor.DiskHit Go.Proofs.YtlleandelcjhjaaDoor.DiskLay Go.Proofs.YtlleandelcjhjaaDoor.RmAliveP
theorem built_b7 : Tryd.prog.built 27 [(0, .int .u8 7)] = some (B7.map B).toArray := by kernel_rfl
theorem zero_d (W : World) : (zeroValue 39).run Tryd.prog W = .ok (.agg DZ) W := by kernel_rfl
set_option maxHeartbeats 2000000 in
set_option maxRecDepth 100000 in
theorem alive_calls (w : World) (hsh : Sh w) : Calls Tryd.prog 9 #[] w fun e w' => e = .returned (.bool true) ∧ Fr0 w w' := by
  have HSH := Lib.hid hsh
  clear hsh
  have hzd := zero_d
  have hzr := zero_r
  have hzb := zero_bl
  have HT := Lib.hid (tabL_len MA (by decide))
  have HU := Lib.hid (tabL_len MB (by decide))
  have HNE : Hid (∀ W, Calls Tryd.prog 32 #[.int .i64 28] W fun e w' => ∃ sa sc ca cc, e = .returned (.tuple #[.agg (dval E0 sa sc ca cc), .int .i64 0]) ∧ DV w' E0 sa sc ca cc ∧ Fr0 W w') := Lib.hid (fun W => DiskNew.new_calls 28 W)
  have O0 := Lib.hid (newD_ok 28)
  have O2 := Lib.hid (writeD_ok (q := 4) (writeD_ok (q := 0) O0.out HT.out (by decide)) HT.out (by decide))
  have O1 := Lib.hid (flushD_ok O2.out)
  have OC2 : Hid ((C2 (tabL MA)).ok) := Lib.hid (hitD_ok O1.out 2 3 0 0)
  have OC3 : Hid ((C3 (tabL MA)).ok) := Lib.hid (writeD_ok (q := 8) (writeD_ok (q := 2) OC2.out B7_len (by decide)) B7_len (by decide))
  have OC3f : Hid ((C3f (tabL MA)).ok) := Lib.hid (flushD_ok OC3.out)
  have OC4 : Hid ((C4 (tabL MA) (tabL MB)).ok) := Lib.hid (flushD_ok (writeD_ok (q := 5) (writeD_ok (q := 1) OC3f.out HU.out (by decide)) HU.out (by decide)))
  have HFO : Hid (∀ p sa sc ca cc W, Fr0 w W → DAt W p E0 sa sc ca cc → Calls Tryd.prog 33 #[.pointer (some ⟨p, 0, none⟩)] W fun e w' => e = .returned (.tuple #[.agg RZ, .int .i64 0]) ∧ DIn w' p (C1 (tabL MA)) ∧ Fr (fun i => i = p) W w') := Lib.hid (fun p sa sc ca cc W f h => format_calls p E0 sa sc ca cc 4 W O0.out h (HSH.out.keep0 f) (by rw [p_c0]; omega) p_h (by decide) (by decide) (by rw [p_s0]; decide) p_w0 (p_w1 _) (p_f1 _) O1.out)
  have HHI : Hid (∀ p sa sc ca cc W, DAt W p (C1 (tabL MA)) sa sc ca cc → Calls Tryd.prog 34 #[.pointer (some ⟨p, 0, none⟩), .int .i64 2, .int .i64 3, .int .i64 0, .int .u8 0] W fun e w' => e = .returned (.int .i64 0) ∧ Now W w' p (C2 (tabL MA))) := Lib.hid (fun p sa sc ca cc W h => by have := DiskHit.hit_calls p 2 3 0 0 (C1 (tabL MA)) sa sc ca cc W O1.out h; rw [p_hit] at this; exact this)
  have HKX : Hid (keepX (C3f (tabL MA)) MB = (0, C4 (tabL MA) (tabL MB))) := Lib.hid (by
    have := @keepX_f (C3f (tabL MA)) MB 0 0 1 5 (C4a (tabL MA) (tabL MB)) (C4b (tabL MA) (tabL MB)) (by rw [p_s3f]; exact p_tab) rfl (by rw [p_s3f]; rfl) (p_k1 _) rfl (p_k2 _ _) rfl (.inl rfl) (.inl rfl) (by decide)
    rw [p_k3] at this
    exact this)
  have HWR : Hid (∀ p r sa sc ca cc W, Fr0 w W → DAt W p (C2 (tabL MA)) sa sc ca cc → Bk W r RZ 24 → r ≠ p → Calls Tryd.prog 25 #[.pointer (some ⟨p, 0, none⟩), .pointer (some ⟨r, 0, none⟩), .int .i64 2, .agg (B7.map B).toArray] W fun e w' => e = .returned (.int .i64 0) ∧ DIn w' p (C4 (tabL MA) (tabL MB)) ∧ (∃ g' cap cur, Bk w' r (RC 1 (.slice (some ⟨g', 0, none⟩) 1 cap)) 24 ∧ OwnP w' g' cap cur [(2, 8)]) ∧ Fr (fun i => i = p ∨ i = r) W w') := Lib.hid (fun p r sa sc ca cc W f h hb hne =>
    first_calls p r (C2 (tabL MA)) sa sc ca cc 0 2 8 B7 (C3 (tabL MA)) (C4 (tabL MA) (tabL MB)) W OC2.out h B7_len hb hne (HSH.out.keep0 f) (by decide) (by decide) (by decide) (by rw [p_c2]; omega) (by rw [p_s2]; decide) (p_ask _) (p_w2 _) (by rw [p_s2]; exact p_sp _) OC3.out (by rw [p_s2, p_s3]) (p_f3 _) OC3f.out (by rw [p_s2]; exact p_s3f _) (by show (C3f (tabL MA)).C.length ≤ 2000; rw [p_c3f]; omega) HKX.out OC4.out)
  have OMB : Hid (MB.ok) := Lib.hid ⟨by decide, fun x hx => by simp only [MB, List.mem_cons, List.not_mem_nil, or_false] at hx; subst hx; decide⟩
  have HRE : Hid (∀ p sa sc ca cc a c W, DAt W p (C4 (tabL MA) (tabL MB)) sa sc ca cc → RV W MB a c → Calls Tryd.prog 22 #[.pointer (some ⟨p, 0, none⟩), .agg (RC 1 (.slice a 1 c)), .int .i64 2] W fun e w' => e = .returned (.tuple #[.agg (B7.map B).toArray, .int .i64 0]) ∧ Fr0 W w') := Lib.hid (fun p sa sc ca cc a c W h hr => by
    have := rmread_calls p (C4 (tabL MA) (tabL MB)) sa sc ca cc MB a c 2 W OC4.out h OMB.out hr (by decide)
    unfold rdX at this
    rw [p_ask4, if_pos rfl, p_at, p_rd] at this
    exact this)
  have HAT : Hid (∀ a c W, RV W MB a c → Calls Tryd.prog 15 #[.agg (RC 1 (.slice a 1 c)), .int .i64 2] W fun e w' => e = .returned (.int .i64 8) ∧ Fr0 W w') := Lib.hid (fun a c W hr => at_calls MB a c 2 W hr (by decide))
  have HHA : Hid (∀ W, Calls Tryd.prog 17 #[.int .i64 28] W fun e w' => e = .returned (.int .i64 4) ∧ w' = W) := Lib.hid (fun W => half_calls 28 W (by decide))
  have HID : Hid (∀ a b c e, (Tryd.prog.info? 39).map (·.size) = some (dval E0 a b c e).size) := Lib.hid (fun _ _ _ _ => info_d)
  have HDO : Hid (∀ a b c e, (dval E0 a b c e).all (·.oneCell') = true) := Lib.hid (fun _ _ _ _ => dval_one _ _ _ _ _)
  have HIR : Hid ((Tryd.prog.info? 24).map (·.size) = some RZ.size) := Lib.hid (info_r _ _)
  have HIR2 : Hid (∀ x y, (Tryd.prog.info? 24).map (·.size) = some (RC x y).size) := Lib.hid (fun _ _ => info_r _ _)
  have HIB := Lib.hid (info_l B7_len)
  have HSB := Lib.hid (size_l B7_len)
  have HOB := Lib.hid (one_l B7)
  have HB7 : Hid ((B7.map B).toArray[0]? = some (.int .u8 7)) := Lib.hid (by kernel_rfl)
  have HBB := Lib.hid built_b7
  clear O0 O2 O1 OC2 OC3 OC3f OC4 HKX OMB HT HU
  generalize (B7.map B).toArray = X7 at *
  generalize C1 (tabL MA) = dA at *
  generalize C2 (tabL MA) = dB at *
  generalize C4 (tabL MA) (tabL MB) = dC at *
  go_enter Tryd.func9, Tryd.ntmps9
  go_wp2_with (first | (go_at_call 32; (with_reducible refine (HNE.out _).mono ?_); rintro e w1 ⟨sa, sc, ca, cc, rfl, hv1, hf1⟩; have HV1 := Lib.hid hv1; have HF1 := Lib.hid hf1; have HZ1 := Lib.hid (Bk.new w1 (.cells DZ 39)); have hf2 : Fr0 w1 ((w1.alloc (.cells DZ 39)).setRow w1.heap.size (dval E0 sa sc ca cc)) := ArrKit.Fr.row (Fr.alloc (Fr.refl _ _) _) _ _ (.inl (Nat.le_refl _)); have HA2 : Hid (DAt ((w1.alloc (.cells DZ 39)).setRow w1.heap.size (dval E0 sa sc ca cc)) w1.heap.size E0 sa sc ca cc) := Lib.hid ⟨ArrKit.Bk.row HZ1.out _, hv1.keep hf2⟩; have HF2 : Hid (Fr0 w ((w1.alloc (.cells DZ 39)).setRow w1.heap.size (dval E0 sa sc ca cc))) := Lib.hid (hf1.then0 hf2); have HPG : Hid (w.heap.size ≤ w1.heap.size) := Lib.hid hf1.size; clear hv1 hf1 hf2) | ((with_reducible show wpList _ _ _ ({ dst := _, op := Op.store 39 _ _, type := _, pos := _, after := _, guard := _ } :: _) _ _); refine wpList_store_row rfl 39 _ _ rfl w1.heap.size (dval E0 sa sc ca cc) rfl rfl 39 DZ HZ1.out (HID.out _ _ _ _) rfl (HDO.out _ _ _ _) ?_) | (go_at_call 33; (with_reducible refine (HFO.out _ _ _ _ _ _ HF2.out HA2.out).mono ?_); rintro e w3 ⟨rfl, ⟨s3, n3, c3, m3, hv3⟩, hf3⟩; have HF3 : Hid (Fr0 w w3) := Lib.hid (Fr.newG HF2.out hf3 HPG.out); have HZ3 := Lib.hid (Bk.new w3 (.cells RZ 24)); have hf4 : Fr0 w3 ((w3.alloc (.cells RZ 24)).setRow w3.heap.size RZ) := ArrKit.Fr.row (Fr.alloc (Fr.refl _ _) _) _ _ (.inl (Nat.le_refl _)); have HA4 := Lib.hid (hv3.keep hf4); have HR4 : Hid (Bk ((w3.alloc (.cells RZ 24)).setRow w3.heap.size RZ) w3.heap.size RZ 24) := Lib.hid (ArrKit.Bk.row HZ3.out _); have HF4 := Lib.hid (HF3.out.then0 hf4); have HNP : Hid (w3.heap.size ≠ w1.heap.size) := Lib.hid (by have := Bk.lt hv3.blk; omega); have HRG : Hid (w.heap.size ≤ w3.heap.size) := Lib.hid HF3.out.size; clear hv3 hf3 hf4) | ((with_reducible show wpList _ _ _ ({ dst := _, op := Op.store 24 _ _, type := _, pos := _, after := _, guard := _ } :: _) _ _); refine wpList_store_row rfl 24 _ _ rfl w3.heap.size RZ rfl rfl 24 RZ HZ3.out HIR.out rfl (RC_all _ _ _ _) ?_) | (go_at_call 34; (with_reducible refine (HHI.out _ _ _ _ _ _ HA4.out).mono ?_); rintro e w5 ⟨rfl, ⟨s5, n5, c5, m5, hv5⟩, hf5⟩; have HV5 := Lib.hid hv5; have HR5 := Lib.hid (hf5.keep HR4.out HNP.out); have HF5 : Hid (Fr0 w w5) := Lib.hid (Fr.newG HF4.out hf5 HPG.out); clear hv5 hf5) | ((with_reducible show wpList _ _ _ ({ dst := _, op := Op.build 27 _, type := _, pos := _, after := _, guard := _ } :: _) _ _); refine build_ev rfl 27 _ rfl [(0, .int .u8 7)] (by simp [Act.eval, Act.put]) X7 HBB.out ?_) | (go_at_call 25; (with_reducible refine (HWR.out _ _ _ _ _ _ _ HF5.out HV5.out HR5.out HNP.out).mono ?_); rintro e w6 ⟨rfl, ⟨s6, n6, c6, m6, hv6⟩, ⟨g6, k6, cur6, hr6, ho6⟩, hf6⟩; have HV6 := Lib.hid hv6; have HR6 := Lib.hid hr6; have HRV6 : Hid (RV w6 MB (some ⟨g6, 0, none⟩) k6) := Lib.hid ⟨OwnG.rd ho6, OwnG.room ho6, OwnG.max ho6⟩; have HF6 : Hid (Fr0 w w6) := Lib.hid (HF5.out.then hf6 (fun i hi e => by rcases e with e | e; exact absurd hi (by have := HPG.out; omega); exact absurd hi (by have := HRG.out; omega))); clear hv6 hr6 ho6 hf6) | ((with_reducible show wpList _ _ _ ({ dst := _, op := Op.load 24 _, type := _, pos := _, after := _, guard := _ } :: _) _ _); refine wpList_load_row_g (by rfl) 24 _ rfl w3.heap.size rfl 24 (RC 1 (.slice (some ⟨g6, 0, none⟩) 1 k6)) (0, 0) _ HR8.out Tryd.underlying24 rfl (HIR2.out _ _) ?_) | ((with_reducible show wpList _ _ _ ({ dst := _, op := Op.load 24 _, type := _, pos := _, after := _, guard := _ } :: _) _ _); refine wpList_load_row_g (by rfl) 24 _ rfl w3.heap.size rfl 24 (RC 1 (.slice (some ⟨g6, 0, none⟩) 1 k6)) (0, 0) _ HR6.out Tryd.underlying24 rfl (HIR2.out _ _) ?_) | (go_at_call 22; (with_reducible refine (HRE.out _ _ _ _ _ _ _ _ HV6.out HRV6.out).mono ?_); rintro e w7 ⟨rfl, hf7⟩; have HZ7 := Lib.hid (Bk.new w7 (.cells ZB 27)); have hf8 : Fr0 w6 ((w7.alloc (.cells ZB 27)).setRow w7.heap.size X7) := hf7.then0 (ArrKit.Fr.row (Fr.alloc (Fr.refl _ _) _) _ _ (.inl (Nat.le_refl _))); have HR8 := Lib.hid (hf8.keep HR6.out (fun h => h)); have HRV8 := Lib.hid (HRV6.out.keep hf8); have HF8 := Lib.hid (HF6.out.then0 hf8); have e8 : (((w7.alloc (.cells ZB 27)).setRow w7.heap.size X7)).cell? ⟨w7.heap.size, 0, none⟩ = some (.int .u8 7) := (Bk.cell (ArrKit.Bk.row HZ7.out X7) 0).trans HB7.out; clear hf7 hf8) | ((with_reducible show wpList _ _ _ ({ dst := _, op := Op.store 27 _ _, type := _, pos := _, after := _, guard := _ } :: _) _ _); refine wpList_store_row rfl 27 _ _ rfl w7.heap.size X7 rfl rfl 27 ZB HZ7.out HIB.out HSB.out HOB.out ?_) | (go_at_call 15; (with_reducible refine (HAT.out _ _ _ HRV8.out).mono ?_); rintro e w9 ⟨rfl, hf9⟩; have HFZ := Lib.hid (HF8.out.then0 hf9); clear hf9) | (go_at_call 17; (with_reducible refine (HHA.out _).mono ?_); rintro e wx ⟨rfl, rfl⟩))
  go_ret
  exact ⟨rfl, HFZ.out⟩

end Go.Proofs.YtlleandelcjhjaaDoor.RmAlive
namespace Go.Proofs.YtlleandelcjhjaaDoor.RmGreat
open Go Go.RowKit Go.Proofs.YtlleandelcjhjaaDoor.K Go.Proofs.YtlleandelcjhjaaDoor.EqKit Go.Proofs.YtlleandelcjhjaaDoor.ArrKit Go.Proofs.YtlleandelcjhjaaDoor.HeldKit Go.Proofs.YtlleandelcjhjaaDoor.GKit Go.Proofs.YtlleandelcjhjaaDoor.GRow Go.Proofs.YtlleandelcjhjaaDoor.DiskKit Go.Proofs.YtlleandelcjhjaaDoor.RmKit Go.Proofs.YtlleandelcjhjaaDoor.MapKit Go.Proofs.YtlleandelcjhjaaDoor.RmRight Go.Proofs.YtlleandelcjhjaaDoor.RmRRight Go.Proofs.YtlleandelcjhjaaDoor.RmTab Go.Proofs.YtlleandelcjhjaaDoor.RmPut Go.Proofs.YtlleandelcjhjaaDoor.RmAsk Go.Proofs.YtlleandelcjhjaaDoor.RmSame Go.Proofs.YtlleandelcjhjaaDoor.DiskSame Go.Proofs.YtlleandelcjhjaaDoor.DiskRRead Go.Proofs.YtlleandelcjhjaaDoor.RmRead Go.Proofs.YtlleandelcjhjaaDoor.RmReads Go.Proofs.YtlleandelcjhjaaDoor.RmAlive
set_option maxHeartbeats 2000000 in
set_option maxRecDepth 100000 in
theorem great_calls (d : Dk) (sa : Option Addr) (sc : Nat) (ca : Option Addr) (cc : Nat) (w : World) (hv : DV w d sa sc ca cc) : Calls Tryd.prog 20 #[.agg (dval d sa sc ca cc)] w fun e w' => e = .returned (.bool (decide (300 < d.C.length))) ∧ Fr0 w w' := by
  have HB : Hid (Bk (w.alloc (.cells (dval d sa sc ca cc) 39)) w.heap.size (dval d sa sc ca cc) 39) := Lib.hid (Bk.new w _)
  have HF : Hid (Fr0 w (w.alloc (.cells (dval d sa sc ca cc) 39))) := Lib.hid (Fr.alloc (Fr.refl _ _) _)
  have hc1 : (w.alloc (.cells (dval d sa sc ca cc) 39)).cell? ⟨w.heap.size, 1, none⟩ = some (.slice ca d.C.length cc) := Bk.cell HB.out 1
  have hx : (300 < (d.C.length : Int)) ↔ (300 < d.C.length) := by omega
  clear hv
  by_cases h : 300 < d.C.length
  · rw [decide_eq_true h]
    have h2 := hx.mpr h
    go_enter Tryd.func20, Tryd.ntmps20
    go_wp2
    go_ret
    exact ⟨rfl, HF.out⟩
  · rw [decide_eq_false h]
    have h2 : ¬ (300 < (d.C.length : Int)) := fun x => h (hx.mp x)
    go_enter Tryd.func20, Tryd.ntmps20
    go_wp2
    go_ret
    exact ⟨rfl, HF.out⟩

end Go.Proofs.YtlleandelcjhjaaDoor.RmGreat
namespace Go.Proofs.YtlleandelcjhjaaDoor.RowG
open Go Go.RowKit Go.Proofs.YtlleandelcjhjaaDoor.K Go.Proofs.YtlleandelcjhjaaDoor.ArrKit Go.Proofs.YtlleandelcjhjaaDoor.HeldKit Go.Proofs.YtlleandelcjhjaaDoor.GKit Go.Proofs.YtlleandelcjhjaaDoor.GRow Go.Proofs.YtlleandelcjhjaaDoor.GApp
section
variable {α : Type} {f : α → List Value} {k : Nat} {e : TypeId}
/-- a slice of one's own: nil, or of a block of one's own -/
def Row (f : α → List Value) (k : Nat) (e : TypeId) (w : World) (base : Nat) (v : Value) (l : List α) : Prop :=
  (v = .slice none 0 0 ∧ l = []) ∨ ∃ g cap cur, v = .slice (some ⟨g, 0, none⟩) l.length cap ∧ base ≤ g ∧ OwnG f k e w g cap cur l
theorem Row.nil (w : World) (base : Nat) : Row f k e w base (.slice none 0 0) [] := .inl ⟨rfl, rfl⟩
theorem Row.own {w : World} {base g cap : Nat} {cur : Array Value} {l : List α} (h : OwnG f k e w g cap cur l) (hb : base ≤ g) : Row f k e w base (.slice (some ⟨g, 0, none⟩) l.length cap) l := .inr ⟨g, cap, cur, rfl, hb, h⟩
theorem Row.keep {S : Nat → Prop} {w w1 : World} {base : Nat} {v : Value} {l : List α} (h : Row f k e w base v l) (fr : Fr S w w1) (hs : ∀ g, v.ownBlock = some g → ¬ S g) : Row f k e w1 base v l := by
  rcases h with h | ⟨g, cap, cur, rfl, hb, ho⟩
  · exact .inl h
  · exact .inr ⟨g, cap, cur, rfl, hb, OwnG.keep ho fr (hs g rfl)⟩
theorem Row.keep0 {w w1 : World} {base : Nat} {v : Value} {l : List α} (h : Row f k e w base v l) (fr : Fr0 w w1) : Row f k e w1 base v l := h.keep fr (fun _ _ h => h)
theorem Row.blk {w : World} {base : Nat} {v : Value} {l : List α} (h : Row f k e w base v l) : ∀ g, v.ownBlock = some g → base ≤ g ∧ g < w.heap.size := by
  rcases h with ⟨rfl, rfl⟩ | ⟨g, cap, cur, rfl, hb, ho⟩
  · intro g e; simp [Value.ownBlock] at e
  · intro g' e
    simp only [Value.ownBlock, Option.some.injEq] at e
    subst e
    exact ⟨hb, Bk.lt ho.blk⟩
/-- what a row is, and what it reads as -/
theorem Row.form {w : World} {base : Nat} {v : Value} {l : List α} (h : Row f k e w base v l) : ∃ a cap, v = .slice a l.length cap ∧ l.length ≤ cap ∧ cap ≤ 9223372036854775807 ∧ RdG f k w a l ∧ (a = none → l = []) ∧ (∀ b, a = some b → v.ownBlock = some b.block ∧ b = ⟨b.block, 0, none⟩) := by
  rcases h with ⟨rfl, rfl⟩ | ⟨g, cap, cur, rfl, hb, ho⟩
  · exact ⟨none, 0, rfl, Nat.le_refl _, by omega, RdG.nil _ _, fun _ => rfl, fun b e => by cases e⟩
  · exact ⟨some ⟨g, 0, none⟩, cap, rfl, ho.room, ho.max, ho.rd, (fun e => by cases e), (fun b e => by cases e; exact ⟨rfl, rfl⟩)⟩
/-- append of one thing -/
theorem Row.append1 {P : Program} (w : World) (t ty : TypeId) (i : TypeInfo) (z : Value) (bytes base : Nat) (ht : P.underlying t = some (.slice e)) (hi : P.info? e = some i) (hz : i.zero = some z)
    (hsize : i.size = k) (hby : i.bytes = bytes) (hzs : z.cells.size = k) (hk : 0 < k) (v : Value) (l : List α) (h : Row f k e w base v l) (hb : base ≤ w.heap.size) (hf : ∀ x ∈ l, (f x).length = k)
    (g1 c1 : Nat) (x : α) (hx : (f x).length = k) (hone : ∀ v ∈ f x, v.oneCell' = true) (hg1 : Bk w g1 (f x).toArray e) (h63 : l.length + 1 ≤ 9223372036854775807) (hbytes : (l.length + 1) * bytes ≤ 140737488355328) :
    ∃ v' w', (Builtin.append_ #[t, t] ty #[v, .slice (some ⟨g1, 0, none⟩) 1 c1]).run P w = .ok v' w' ∧ Row f k e w' base v' (l ++ [x]) ∧ Fr (fun i => v.ownBlock = some i) w w' ∧ (∀ g, v'.ownBlock = some g → v.ownBlock = some g ∨ w.heap.size ≤ g) := by
  rcases h with ⟨rfl, rfl⟩ | ⟨g, cap, cur, rfl, hbg, ho⟩
  · obtain ⟨g, cap, cur, w', hr, hg, how, hfr⟩ := GApp.run_append_one (P := P) w t ty i z bytes ht hi hz hsize hby hzs hk none 0 [] rfl (RdG.nil _ _) (fun _ h => by cases h) g1 c1 x hx hg1 (by simp) (by simpa using hbytes) (fun _ => rfl)
    refine ⟨_, w', hr, .inr ⟨g, cap, cur, rfl, Nat.le_trans hb hg, how⟩, hfr.weaken (fun _ _ h => h.elim), fun g' e => .inr ?_⟩
    simp only [Value.ownBlock, Option.some.injEq] at e
    omega
  · obtain ⟨v', w', hr, hown, hgr, -⟩ := run_append_own (P := P) w base t ty e i z k bytes ht hi hz hsize hby hzs hk _ l.length (flat f l) (own_row hf ho hbg) ⟨g1, 0, none⟩ 1 c1 (f x) (by rw [hx, Nat.one_mul]) (fun j u hu => by rw [add_form, Nat.zero_add, Bk.cell hg1, List.getElem?_toArray]; exact hu) hone (by unfold maxLen; omega) hbytes hb
    have e1 : flat f l ++ f x = flat f (l ++ [x]) := by rw [flat_append, flat_cons, flat_nil, List.append_nil]
    rw [e1] at hown
    have hfl : ∀ y ∈ l ++ [x], (f y).length = k := fun y hy => by
      rcases List.mem_append.1 hy with h | h
      · exact hf y h
      · simp only [List.mem_cons, List.not_mem_nil, or_false] at h; subst h; exact hx
    obtain ⟨g', cap', cur', rfl, hb', ho'⟩ := own_of hfl hk hown (by simp) (by omega)
    refine ⟨_, w', hr, .inr ⟨g', cap', cur', by simp, hb', ho'⟩, ⟨hgr.os, hgr.tape, hgr.output, hgr.size, fun i hi hs => hgr.block i hi (by simp only [Value.ownBlock] at hs ⊢; exact fun e => hs e.symm)⟩, fun q q_e => ?_⟩
    have hnews : ∀ (j : Nat) (u : Value), (f x)[j]? = some u → w.cell? ((⟨g1, 0, none⟩ : Addr).add j) = some u := fun j u hu => by rw [add_form, Nat.zero_add, Bk.cell hg1, List.getElem?_toArray]; exact hu
    by_cases hroom : l.length + 1 ≤ cap
    · have h2 := run_append_room (P := P) w t ty e i ht hi g l.length cap cur ho.blk ⟨g1, 0, none⟩ 1 c1 (f x) (by rw [hx, hsize, Nat.one_mul]) hnews hone hroom (by rw [hsize, hx, ho.size, ← Nat.succ_mul]; exact Nat.mul_le_mul_right _ hroom)
      have h3 := hr.symm.trans h2
      injection h3 with h4 h5
      injection h4 with h6 h7 h8
      injection h6 with h9
      injection h9 with h10
      simp only [Value.ownBlock, Option.some.injEq] at q_e ⊢
      left
      omega
    · have h2 := run_append_grow (P := P) w t ty e i z ht hi hz ⟨g, 0, none⟩ l.length cap (flat f l) (by rw [flat_length hf, hsize]) (ho.rd.cells hf hk) ⟨g1, 0, none⟩ 1 c1 (f x) (by rw [hx, hsize, Nat.one_mul]) hnews (by omega) (by omega) (by rw [hby]; exact growslice_fits (by omega) hbytes)
      have h3 := hr.symm.trans h2
      injection h3 with h4 h5
      injection h4 with h6 h7 h8
      injection h6 with h9
      injection h9 with h10
      simp only [Value.ownBlock, Option.some.injEq] at q_e ⊢
      right
      omega
end
end Go.Proofs.YtlleandelcjhjaaDoor.RowG
namespace Go.Proofs.YtlleandelcjhjaaDoor.NeqKit
open Go Go.RowKit Go.Proofs.YtlleandelcjhjaaDoor.K Go.Proofs.YtlleandelcjhjaaDoor.EqKit Go.Proofs.YtlleandelcjhjaaDoor.ArrKit Go.Proofs.YtlleandelcjhjaaDoor.HeldKit Go.Proofs.YtlleandelcjhjaaDoor.GKit Go.Proofs.YtlleandelcjhjaaDoor.GRow Go.Proofs.YtlleandelcjhjaaDoor.DiskKit Go.Proofs.YtlleandelcjhjaaDoor.DiskNew
theorem wpList_neq_g {P : Program} {ops : Array Oper} {rest : List Oper} {o : Oper} {a : Act} {w : World} {Q : Exit → Act → World → Prop} (hw : Region.wanted o (yielded ops a.tmps) = true) {t u : TypeId} {x y : Operand} (ho : o.op = .binOp .neq t x y u)
    {X Y : Array Value} {b : Bool} (hx : a.eval x = .agg X) (hy : a.eval y = .agg Y) (hm : P.eqGuardType P.depth t = false) (heq : ∀ W, (Op.equalIn 10000 t (.agg X) (.agg Y)).run P W = .ok b W)
    (h : wpList P ops Q rest (a.put o.dst (.bool (!b))) w) : wpList P ops Q (o :: rest) a w := by
  unfold wpList
  rw [if_pos hw]
  refine Or.inl ?_
  unfold Oper.wp
  rw [Go.Proofs.YtlleandelcjhjaaDoor.DiskSame.run_neq_op ho hx hy hm heq w]
  exact h

end Go.Proofs.YtlleandelcjhjaaDoor.NeqKit
