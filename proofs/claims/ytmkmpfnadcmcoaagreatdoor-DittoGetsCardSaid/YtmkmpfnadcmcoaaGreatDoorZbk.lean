/- The theorems that the claim uses, text behind text (part 37). -/
import Derived.Test.YtmkmpfnadcmcoaaGreatDoorZbj
set_option maxRecDepth 100000
set_option maxHeartbeats 8000000
set_option linter.unusedVariables false
set_option linter.unusedSimpArgs false
namespace Go.Proofs.YtmkmpfnadcmcoaaGreatDoor.DitAlive
open Go Go.RowKit K EqKit ArrKit HeldKit GKit GRow DiskKit RmKit MapKit ShaStep ShaRef ShaPad ShaSum ShaRSum RmRight RmRRight RmTab RmPut RmAsk RmSame DiskRRead RmRead RmReads DiskAct RmSpare RmKeep RmFirst RmFormat DiskNew DiskHit DiskLay RmAliveP RmWrX RmPair PtrKit DitKit DitHome DitGet DitPut DitAliveP DitFresh
theorem f_hit1 (T : List UInt8) : ({ F6 T with S := (F6 T).S.set (3 : Int).toNat (hitS (secAt (F6 T) 3) 1 0 1) } : Dk) = F7 T := by kernel_rfl
theorem built_b7 : Tryz.prog.built 36 [(0, .int .u8 7)] = some (B7.map B).toArray := by kernel_rfl
theorem PS.now {w w1 : World} {p r : Nat} {d d' : Dk} {m : Rm} (h : PS w p r d m) (hn : Now w w1 p d') (hrp : r ≠ p) : PS w1 p r d' m := by
 obtain ⟨⟨sa, sc, ca, cc, h1⟩, a, c, h2, h3⟩ := h
 exact ⟨hn.at_, a, c, hn.fr.keep h2 hrp, RV.past h3 hn.fr h1.blk⟩
theorem alive_calls (w : World) (hsh : Sh w) : Calls Tryz.prog 5 #[] w fun e w' => e = .returned (.bool true) ∧ Fr0 w w' := by
 have HSH := jq7 hsh
 have hT := tabL_len MA (by decide)
 obtain ⟨o0, o3, o4, o5, o6, o7, o8⟩ := f_ok (tabL MA) hT
 have hMA : MA.ok := ⟨by decide, fun x hx => by cases hx⟩
 have HFR : Jq7 (∀ W, Sh W → Calls Tryz.prog 16 #[] W fun e w' => ∃ sa sc ca cc, e = .returned (.tuple #[.agg (dval (F3 (tabL MA)) sa sc ca cc), .agg RZ, .bool true]) ∧ DV w' (F3 (tabL MA)) sa sc ca cc ∧ Fr0 W w') := jq7 (fun W h => fresh_calls W h)
 have HPU : Jq7 (∀ p r W, r ≠ p → Sh W → PS W p r (F3 (tabL MA)) MA → Calls Tryz.prog 17 #[.pointer (some ⟨p, 0, none⟩), .pointer (some ⟨r, 0, none⟩), .agg (B7.map B).toArray, .int .i64 3, .int .i64 25] W fun e w' => e = .returned (.tuple #[.agg (PC 3 25 (sumOf B7)).toArray, .int .i64 0]) ∧ PS w' p r (F5 (tabL MA)) MA ∧ Fr (fun i => i = p ∨ i = r) W w') := jq7 (fun p r W hrp hs h => put_calls p r (F3 (tabL MA)) (F4 (tabL MA)) (F5 (tabL MA)) MA B7 3 25 W o3 hMA rfl h hrp hs B7_len (by decide) (by decide) (by rw [f_c3]; decide) (by kernel_rfl) (f_home _ _) (by decide) (f_p1 _) (.inr ⟨by decide, f_p2 _⟩))
 have HFL : Jq7 (∀ p r W, r ≠ p → PS W p r (F5 (tabL MA)) MA → Calls Tryz.prog 18 #[.pointer (some ⟨p, 0, none⟩)] W fun e w' => e = .returned (.int .i64 0) ∧ PS w' p r (F6 (tabL MA)) MA ∧ Fr (fun i => i = p) W w') := jq7 (fun p r W hrp h => by
  obtain ⟨⟨sa, sc, ca, cc, h1⟩, -⟩ := id h
  have := DiskFlush.flush_calls p (F5 (tabL MA)) sa sc ca cc W o5 h1
  rw [f_f5] at this
  exact this.mono (fun e w' hh => ⟨hh.1, PS.now h hh.2 hrp, hh.2.fr⟩))
 have HHI : Jq7 (∀ p r W, r ≠ p → PS W p r (F6 (tabL MA)) MA → Calls Tryz.prog 19 #[.pointer (some ⟨p, 0, none⟩), .int .i64 3, .int .i64 1, .int .i64 0, .int .u8 1] W fun e w' => e = .returned (.int .i64 0) ∧ PS w' p r (F7 (tabL MA)) MA ∧ Fr (fun i => i = p) W w') := jq7 (fun p r W hrp h => by
  obtain ⟨⟨sa, sc, ca, cc, h1⟩, -⟩ := id h
  have := DiskHit.hit_k1 p 3 1 0 1 (F6 (tabL MA)) sa sc ca cc W o6 h1 (by kernel_rfl) rfl (by decide) (by decide)
  rw [f_hit1] at this
  exact this.mono (fun e w' hh => ⟨hh.1, PS.now h hh.2 hrp, hh.2.fr⟩))
 have HGE : Jq7 (∀ p r W, r ≠ p → Sh W → PS W p r (F7 (tabL MA)) MA → Calls Tryz.prog 9 #[.pointer (some ⟨p, 0, none⟩), .pointer (some ⟨r, 0, none⟩), .agg (PC 3 25 (sumOf B7)).toArray] W fun e w' => e = .returned (.tuple #[.agg (B7.map B).toArray, .int .i64 1, .int .i64 0]) ∧ PS w' p r (F8 (tabL MA)) MA ∧ Fr (fun i => i = p ∨ i = r) W w') := jq7 (fun p r W hrp hs h => by
  have := get_calls p r (F7 (tabL MA)) MA 3 25 (sumOf B7) W o7 hMA h hrp hs (sumOf_length _) (by decide) (by decide) (by rw [f_c7]; decide)
  rw [f_get] at this
  exact this)
 have HRV : Jq7 (∀ W, RV W MA none 0) := jq7 (fun W => rv_nil W 0)
 have hsl := sumOf_length B7
 have HIP := jq7 (info_ptr 3 25 hsl)
 have HSP : Jq7 (PtrAsk.ZERO.size = (PC 3 25 (sumOf B7)).toArray.size) := jq7 (by
  have h : (PC 3 25 (sumOf B7)).toArray.size = 34 := by rw [List.size_toArray, PC_length, hsl]
  rw [h]; rfl)
 have HOP : Jq7 ((PC 3 25 (sumOf B7)).toArray.all (·.oneCell') = true) := jq7 (by
  rw [List.all_toArray]
  generalize sumOf B7 = s
  simp [PC, Value.oneCell', B_def])
 have HIB := jq7 (info_l B7_len)
 have HSB := jq7 (size_l B7_len)
 have HOB := jq7 (one_l B7)
 have HB7 : Jq7 ((B7.map B).toArray[0]? = some (.int .u8 7)) := jq7 (by kernel_rfl)
 have HBB := jq7 built_b7
 have HID : Jq7 (∀ d a b c e, (Tryz.prog.info? 25).map (·.size) = some (dval d a b c e).size) := jq7 (fun _ _ _ _ _ => info_d)
 have HDO : Jq7 (∀ d a b c e, (dval d a b c e).all (·.oneCell') = true) := jq7 (fun _ _ _ _ _ => dval_one _ _ _ _ _)
 have HIR : Jq7 ((Tryz.prog.info? 28).map (·.size) = some RZ.size) := jq7 (info_r _ _)
 have hzd : ∀ W, (zeroValue 25).run Tryz.prog W = .ok (.agg DZ) W := by intro W; kernel_rfl
 have hzp : ∀ W, (zeroValue 31).run Tryz.prog W = .ok (.agg PtrAsk.ZERO) W := by intro W; kernel_rfl
 have hzr := zero_r
 have hzb := zero_bl
 clear hsh hT o0 o3 o4 o5 o6 o7 o8 hMA hsl
 generalize (PC 3 25 (sumOf B7)).toArray = PX at *
 generalize (B7.map B).toArray = X7 at *
 generalize F3 (tabL MA) = dA at *
 generalize F5 (tabL MA) = dB at *
 generalize F6 (tabL MA) = dC at *
 generalize F7 (tabL MA) = dD at *
 generalize F8 (tabL MA) = dE at *
 go_enter Tryz.func5, Tryz.ntmps5
 go_wp2_with (first | (go_at_call 16; (with_reducible refine (HFR.o _ HSH.o).mono ?_); rintro e w1 ⟨sa, sc, ca, cc, rfl, hv1, hf1⟩; have hs1 : (w1.alloc (.cells DZ 25)).heap.size = w1.heap.size + 1 := (by simp); have HA2 : Jq7 (Bk ((w1.alloc (.cells DZ 25)).alloc (.cells RZ 28)) w1.heap.size DZ 25) := jq7 (Bk.alloc (Bk.new w1 _) _); have HB2 : Jq7 (Bk ((w1.alloc (.cells DZ 25)).alloc (.cells RZ 28)) (w1.heap.size + 1) RZ 28) := jq7 (by have h := Bk.new (w1.alloc (.cells DZ 25)) (.cells RZ 28); rwa [hs1] at h); have HB3 : Jq7 (Bk (((w1.alloc (.cells DZ 25)).alloc (.cells RZ 28)).setRow w1.heap.size (dval dA sa sc ca cc)) (w1.heap.size + 1) RZ 28) := jq7 (ArrKit.Bk.rowOther HB2.o _ (by omega)); have hfr : Fr0 w1 ((((w1.alloc (.cells DZ 25)).alloc (.cells RZ 28)).setRow w1.heap.size (dval dA sa sc ca cc)).setRow (w1.heap.size + 1) RZ) := ArrKit.Fr.row (ArrKit.Fr.row (Fr.alloc (Fr.alloc (Fr.refl _ _) _) _) _ _ (.inl (Nat.le_refl _))) _ _ (.inl (Nat.le_succ _)); have HP4 : Jq7 (PS ((((w1.alloc (.cells DZ 25)).alloc (.cells RZ 28)).setRow w1.heap.size (dval dA sa sc ca cc)).setRow (w1.heap.size + 1) RZ) w1.heap.size (w1.heap.size + 1) dA MA) := jq7 (PS.of (a := none) (c := 0) ⟨ArrKit.Bk.rowOther (ArrKit.Bk.row HA2.o _) _ (by omega), hv1.keep hfr⟩ (ArrKit.Bk.row HB3.o _) (HRV.o _)); have HF4 : Jq7 (Fr0 w ((((w1.alloc (.cells DZ 25)).alloc (.cells RZ 28)).setRow w1.heap.size (dval dA sa sc ca cc)).setRow (w1.heap.size + 1) RZ)) := jq7 (hf1.then0 hfr); have HG0 : Jq7 (w.heap.size ≤ w1.heap.size ∧ (w1.heap.size + 1) ≠ w1.heap.size) := jq7 ⟨hf1.size, by omega⟩; clear hv1 hf1 hfr hs1) | ((with_reducible show wpList _ _ _ (qo _ (Op.store 25 _ _) _ _ _ _ _) _ _); refine wpList_store_row rfl 25 _ _ rfl w1.heap.size (dval dA sa sc ca cc) rfl rfl 25 DZ HA2.o (HID.o _ _ _ _ _) rfl (HDO.o _ _ _ _ _) ?_) | ((with_reducible show wpList _ _ _ (qo _ (Op.store 28 _ _) _ _ _ _ _) _ _); refine wpList_store_row rfl 28 _ _ rfl (w1.heap.size + 1) RZ rfl rfl 28 RZ HB3.o HIR.o rfl (RC_all _ _ _ _) ?_) | ((with_reducible show wpList _ _ _ (qo _ (Op.build 36 _) _ _ _ _ _) _ _); refine build_ev rfl 36 _ rfl [(0, .int .u8 7)] (by simp [Act.eval, Act.put]) X7 HBB.o ?_) | (go_at_call 17; (with_reducible refine (HPU.o _ _ _ HG0.o.2 (HSH.o.keep0 HF4.o) HP4.o).mono ?_); rintro e w5 ⟨rfl, hp, hf⟩; have HZ5 := jq7 (Bk.new w5 (.cells PtrAsk.ZERO 31)); have hfr : Fr0 w5 ((w5.alloc (.cells PtrAsk.ZERO 31)).setRow w5.heap.size PX) := ArrKit.Fr.row (Fr.alloc (Fr.refl _ _) _) _ _ (.inl (Nat.le_refl _)); have HP6 := jq7 (hp.keep0 hfr); have HF6 : Jq7 (Fr0 w ((w5.alloc (.cells PtrAsk.ZERO 31)).setRow w5.heap.size PX)) := jq7 ((HF4.o.then hf (fun i hi e => by have h := HG0.o; omega)).then0 hfr); have HQ6 : Jq7 (Bk ((w5.alloc (.cells PtrAsk.ZERO 31)).setRow w5.heap.size PX) w5.heap.size PX 31) := jq7 (ArrKit.Bk.row HZ5.o _); have HG5 : Jq7 ((w1.heap.size + 1) < w5.heap.size) := jq7 (by obtain ⟨-, qa, qc, hq, -⟩ := hp; exact Bk.lt hq); clear hp hf hfr) | ((with_reducible show wpList _ _ _ (qo _ (Op.store 31 _ _) _ _ _ _ _) _ _); refine wpList_store_row rfl 31 _ _ rfl w5.heap.size PX rfl rfl 31 PtrAsk.ZERO HZ5.o HIP.o HSP.o HOP.o ?_) | (go_at_call 18; (with_reducible refine (HFL.o _ _ _ HG0.o.2 HP6.o).mono ?_); rintro e w7 ⟨rfl, hp, hf⟩; have hg5 := HG5.o; have HP7 := jq7 hp; have HF7 : Jq7 (Fr0 w w7) := jq7 (HF6.o.then hf (fun i hi e => by have h := HG0.o; omega)); have HQ7 := jq7 (Fr.keep hf HQ6.o (by omega)); clear hp hf) | (go_at_call 19; (with_reducible refine (HHI.o _ _ _ HG0.o.2 HP7.o).mono ?_); rintro e w8 ⟨rfl, hp, hf⟩; have HP8 := jq7 hp; have HF8 : Jq7 (Fr0 w w8) := jq7 (HF7.o.then hf (fun i hi e => by have h := HG0.o; omega)); have HQ8 := jq7 (Fr.keep hf HQ7.o (by omega)); clear hp hf) | ((with_reducible show wpList _ _ _ (qo _ (Op.load 31 _) _ _ _ _ _) _ _); refine lr 31 w5.heap.size PX HQ8.o HIP.o ?_) | (go_at_call 9; (with_reducible refine (HGE.o _ _ _ HG0.o.2 (HSH.o.keep0 HF8.o) HP8.o).mono ?_); rintro e w9 ⟨rfl, hp, hf⟩; have HF9 : Jq7 (Fr0 w w9) := jq7 (HF8.o.then hf (fun i hi e => by have h := HG0.o; omega)); have HZ9 := jq7 (Bk.new w9 (.cells ZB 36)); have HFB : Jq7 (Fr0 w ((w9.alloc (.cells ZB 36)).setRow w9.heap.size X7)) := jq7 (HF9.o.then0 (ArrKit.Fr.row (Fr.alloc (Fr.refl _ _) _) _ _ (.inl (Nat.le_refl _)))); have e9 : (((w9.alloc (.cells ZB 36)).setRow w9.heap.size X7)).cell? ⟨w9.heap.size, 0, none⟩ = some (.int .u8 7) := (Bk.cell (ArrKit.Bk.row HZ9.o X7) 0).trans HB7.o; clear hp hf) | ((with_reducible show wpList _ _ _ (qo _ (Op.store 36 _ _) _ _ _ _ _) _ _); refine wpList_store_row rfl 36 _ _ rfl w9.heap.size X7 rfl rfl 36 ZB HZ9.o HIB.o HSB.o HOB.o ?_))
 go_ret
 exact ⟨rfl, HFB.o⟩

end Go.Proofs.YtmkmpfnadcmcoaaGreatDoor.DitAlive
