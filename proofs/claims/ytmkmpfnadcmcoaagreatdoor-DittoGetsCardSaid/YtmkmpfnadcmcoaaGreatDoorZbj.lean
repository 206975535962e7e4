/- The theorems that the claim uses, text behind text (part 36). -/
import Derived.Test.YtmkmpfnadcmcoaaGreatDoorZao
import Derived.Test.YtmkmpfnadcmcoaaGreatDoorZav
import Derived.Test.YtmkmpfnadcmcoaaGreatDoorZbb
import Derived.Test.YtmkmpfnadcmcoaaGreatDoorZbd
set_option maxRecDepth 100000
set_option maxHeartbeats 8000000
set_option linter.unusedVariables false
set_option linter.unusedSimpArgs false
namespace Go.Proofs.YtmkmpfnadcmcoaaGreatDoor.DitAliveP
open Go Go.RowKit K EqKit ArrKit HeldKit GKit GRow DiskKit RmKit MapKit ShaStep ShaRef ShaPad ShaSum ShaRSum RmRight RmRRight RmTab RmPut RmAsk RmSame DiskRRead RmRead RmReads DiskAct RmSpare RmKeep RmFirst RmFormat DiskNew DiskHit DiskLay RmAliveP RmWrX DitKit
def B6 : List UInt8 := 6 :: List.replicate 127 0
def F0 : Dk := newD 60
def F1 (T : List UInt8) : Dk := writeD F0 0 T
def F2 (T : List UInt8) : Dk := writeD (F1 T) 20 T
def F3 (T : List UInt8) : Dk := flushD (F2 T)
def F4 (T : List UInt8) : Dk := writeD (F3 T) 3 B7
def F5 (T : List UInt8) : Dk := writeD (F4 T) 25 B7
def F6 (T : List UInt8) : Dk := flushD (F5 T)
def F7 (T : List UInt8) : Dk := hitD (F6 T) 3 1 0 1
def F8 (T : List UInt8) : Dk := writeD (F7 T) 3 B7
section
variable (T s : List UInt8)
theorem f_h : hvI F0 = 20 := by kernel_rfl
theorem f_s0 : F0.S.length = 60 := by kernel_rfl
theorem f_c0 : F0.C.length = 0 := by kernel_rfl
theorem f_w0 : writeE F0 0 = 0 := by kernel_rfl
theorem f_w1 : writeE (F1 T) 20 = 0 := by kernel_rfl
theorem f_f2 : flushE (F2 T) = 0 := by kernel_rfl
theorem f_c3 : (F3 T).C.length = 0 := by kernel_rfl
theorem f_home : homeB (F3 T) MA 3 25 s = true := by kernel_rfl
theorem f_p1 : wrX (F3 T) MA 3 B7 = (0, F4 T, MA) := by kernel_rfl
theorem f_p2 : wrX (F4 T) MA 25 B7 = (0, F5 T, MA) := by kernel_rfl
theorem f_f5 : flushE (F5 T) = 0 := by kernel_rfl
theorem f_c7 : (F7 T).C.length = 0 := by kernel_rfl
theorem f_home7 : homeB (F7 T) MA 3 25 s = true := by kernel_rfl
theorem f_rd3 : rdX (F7 T) MA 3 = (B6, 0) := by kernel_rfl
theorem f_rd25 : rdX (F7 T) MA 25 = (B7, 0) := by kernel_rfl
theorem f_hole : PtrAsk.isH 3 25 s = false := by kernel_rfl
theorem f_up : (F7 T).down = false := by kernel_rfl
theorem f_wr7 : wrX (F7 T) MA 3 B7 = (0, F8 T, MA) := by kernel_rfl
end
theorem sums_ne : sumOf B6 ≠ sumOf B7 := by decide
theorem get_of {d d' : Dk} {m : Rm} {a b : Int} {s x y : List UInt8} (h1 : homeB d m a b s = true) (h2 : PtrAsk.isH a b s = false) (h3 : d.down = false) (h4 : rdX d m a = (x, 0)) (h5 : rdX d m b = (y, 0)) (h6 : sumOf x ≠ s) (h7 : sumOf y = s) (h8 : wrX d m a y = (0, d', m)) (hb : b ≠ -1) : getX d m a b s = ((y, 1, 0), d', m) := by
 have g3 : rdG d m a b s a = (x, false) := by
  unfold rdG PtrFitB.fitB
  rw [h4, h2, if_neg (by decide), decide_eq_false h6, Bool.and_false]
 have g25 : rdG d m a b s b = (y, true) := by
  unfold rdG PtrFitB.fitB
  rw [h5, h2, if_neg (by decide), decide_eq_true h7]; rfl
 have gh : healX d m a y = (1, 0, d', m) := by
  unfold healX
  rw [h8]; rfl
 unfold getX
 rw [if_neg (by rw [h1]; decide), if_neg (by rw [h2]; decide), if_neg (by rw [h3]; decide), g3, g25, if_neg (show ¬ false = true by decide), if_neg hb, if_neg (show ¬ true = false by decide), gh, if_neg (show ¬ (0 : Int) ≠ 0 by decide)]
theorem f_get (T : List UInt8) : getX (F7 T) MA 3 25 (sumOf B7) = ((B7, 1, 0), F8 T, MA) := get_of (f_home7 T _) (f_hole _) (f_up T) (f_rd3 T) (f_rd25 T) sums_ne rfl (f_wr7 T) (by decide)

end Go.Proofs.YtmkmpfnadcmcoaaGreatDoor.DitAliveP
namespace Go.Proofs.YtmkmpfnadcmcoaaGreatDoor.DitFresh
open Go Go.RowKit K EqKit ArrKit HeldKit GKit GRow DiskKit RmKit MapKit ShaStep ShaRef ShaPad ShaSum ShaRSum RmRight RmRRight RmTab RmPut RmAsk RmSame DiskRRead RmRead RmReads DiskAct RmSpare RmKeep RmFirst RmFormat DiskNew DiskHit DiskLay RmAliveP RmWrX RmPair DitKit DitAliveP
theorem results_cct {P : Program} {fn : Func} {p q u : Tmp} {ty ty' : TypeId} (h : fn.results = #[.cell p ty, .cell q ty', .tmp u]) (tmps : Array Value) (w : World) (g g' : Nat) (t t' : TypeId) (cs cs' : Array Value) (d d' : TypeDesc)
  (hp : tmps.getD p undef = .pointer (some ⟨g, 0, none⟩)) (hq : tmps.getD q undef = .pointer (some ⟨g', 0, none⟩)) (hg : w.heap[g]? = some (.cells cs t (0, 0))) (hg' : w.heap[g']? = some (.cells cs' t' (0, 0)))
  (hu : P.underlying ty = some d) (hd : (match d with | .struct _ | .array _ _ => true | _ => false) = true) (hi : (P.info? ty).map (·.size) = some cs.size)
  (hu' : P.underlying ty' = some d') (hd' : (match d' with | .struct _ | .array _ _ => true | _ => false) = true) (hi' : (P.info? ty').map (·.size) = some cs'.size) :
  (results fn tmps).run P w = .ok (.tuple #[.agg cs, .agg cs', tmps.getD u undef]) w := by
 have hp' : tmps[p]?.getD undef = .pointer (some ⟨g, 0, none⟩) := by simpa using hp
 have hq' : tmps[q]?.getD undef = .pointer (some ⟨g', 0, none⟩) := by simpa using hq
 simp [results, h, hp', hq', asAddr, run_loadVar_row w g t ty cs (0, 0) d hg hu hd hi, run_loadVar_row w g' t' ty' cs' (0, 0) d' hg' hu' hd' hi']
theorem fin_cct {P : Program} {fn : Func} {R : Ending → World → Prop} {a : Act} {w : World} {p q u : Tmp} {ty ty' : TypeId} (g g' : Nat) (t t' : TypeId) (cs cs' : Array Value) (x : Value) {d d' : TypeDesc}
  (h : fn.results = #[.cell p ty, .cell q ty', .tmp u]) (hp : a.tmps.getD p undef = .pointer (some ⟨g, 0, none⟩)) (hq : a.tmps.getD q undef = .pointer (some ⟨g', 0, none⟩)) (hx : a.tmps.getD u undef = x) (hds : a.defers = [])
  (hu : P.underlying ty = some d) (hd : (match d with | .struct _ | .array _ _ => true | _ => false) = true) (hi : (P.info? ty).map (·.size) = some cs.size)
  (hu' : P.underlying ty' = some d') (hd' : (match d' with | .struct _ | .array _ _ => true | _ => false) = true) (hi' : (P.info? ty').map (·.size) = some cs'.size)
  (hg : w.heap[g]? = some (.cells cs t (0, 0))) (hg' : w.heap[g']? = some (.cells cs' t' (0, 0))) (hR : R (.returned (.tuple #[.agg cs, .agg cs', x])) w) : bodyPost P fn R .ret a w := by
 subst hx
 exact bodyPost_ret (results_cct h _ _ g g' t t' cs cs' d d' hp hq hg hg' hu hd hi hu' hd' hi') hds hR
theorem f_ok (T : List UInt8) (hT : T.length = 128) : F0.ok ∧ (F3 T).ok ∧ (F4 T).ok ∧ (F5 T).ok ∧ (F6 T).ok ∧ (F7 T).ok ∧ (F8 T).ok := by
 have h0 : F0.ok := newD_ok 60
 have h1 : (F1 T).ok := writeD_ok (q := 0) h0 hT (by decide)
 have h2 : (F2 T).ok := writeD_ok (q := 20) h1 hT (by decide)
 have h3 : (F3 T).ok := flushD_ok h2
 have h4 : (F4 T).ok := writeD_ok (q := 3) h3 B7_len (by decide)
 have h5 : (F5 T).ok := writeD_ok (q := 25) h4 B7_len (by decide)
 have h6 : (F6 T).ok := flushD_ok h5
 have h7 : (F7 T).ok := hitD_ok h6 3 1 0 1
 exact ⟨h0, h3, h4, h5, h6, h7, writeD_ok (q := 3) h7 B7_len (by decide)⟩
theorem fresh_calls (w : World) (hsh : Sh w) : Calls Tryz.prog 16 #[] w fun e w' => ∃ sa sc ca cc, e = .returned (.tuple #[.agg (dval (F3 (tabL MA)) sa sc ca cc), .agg RZ, .bool true]) ∧ DV w' (F3 (tabL MA)) sa sc ca cc ∧ Fr0 w w' := by
 have HSH := jq7 hsh
 clear hsh
 have hzd : ∀ W, (zeroValue 25).run Tryz.prog W = .ok (.agg DZ) W := by intro W; kernel_rfl
 have hzr := zero_r
 have hT := tabL_len MA (by decide)
 obtain ⟨o0, o3, -⟩ := f_ok (tabL MA) hT
 have HNE : Jq7 (∀ W, Calls Tryz.prog 28 #[.int .i64 60] W fun e w' => ∃ sa sc ca cc, e = .returned (.tuple #[.agg (dval F0 sa sc ca cc), .int .i64 0]) ∧ DV w' F0 sa sc ca cc ∧ Fr0 W w') := jq7 (fun W => DiskNew.new_calls 60 W)
 have HFO : Jq7 (∀ p sa sc ca cc W, Fr0 w W → DAt W p F0 sa sc ca cc → Calls Tryz.prog 29 #[.pointer (some ⟨p, 0, none⟩)] W fun e w' => e = .returned (.tuple #[.agg RZ, .int .i64 0]) ∧ DIn w' p (F3 (tabL MA)) ∧ Fr (fun i => i = p) W w') := jq7 (fun p sa sc ca cc W f h => RmFormat.format_calls p F0 sa sc ca cc 20 W o0 h (HSH.o.keep0 f) (by rw [f_c0]; omega) f_h (by decide) (by decide) (by rw [f_s0]; decide) f_w0 (f_w1 _) (f_f2 _) o3)
 have HID : Jq7 (∀ d a b c e, (Tryz.prog.info? 25).map (·.size) = some (dval d a b c e).size) := jq7 (fun _ _ _ _ _ => info_d)
 have HDO : Jq7 (∀ d a b c e, (dval d a b c e).all (·.oneCell') = true) := jq7 (fun _ _ _ _ _ => dval_one _ _ _ _ _)
 have HIR : Jq7 ((Tryz.prog.info? 28).map (·.size) = some RZ.size) := jq7 (info_r _ _)
 have HX2 : Jq7 (Bk ((w.alloc (.cells DZ 25)).alloc (.cells RZ 28)) w.heap.size DZ 25) := jq7 (Bk.alloc (Bk.new w _) _)
 have HY2 : Jq7 (Bk ((w.alloc (.cells DZ 25)).alloc (.cells RZ 28)) (w.heap.size + 1) RZ 28) := jq7 (by have := Bk.new (w.alloc (.cells DZ 25)) (.cells RZ 28); rwa [show (w.alloc (.cells DZ 25)).heap.size = w.heap.size + 1 by simp] at this)
 have HF2 : Jq7 (Fr0 w ((w.alloc (.cells DZ 25)).alloc (.cells RZ 28))) := jq7 (Fr.alloc (Fr.alloc (Fr.refl _ _) _) _)
 have HOK3 := jq7 o3
 clear o0 o3 hT
 generalize F3 (tabL MA) = dB at *
 go_enter Tryz.func16, Tryz.ntmps16
 go_wp2_with (first | (go_at_call 28; (with_reducible refine (HNE.o _).mono ?_); rintro e w3 ⟨sa, sc, ca, cc, rfl, hv3, hf3⟩; have HZ3 := jq7 (Bk.new w3 (.cells DZ 25)); have hfr : Fr0 w3 ((w3.alloc (.cells DZ 25)).setRow w3.heap.size (dval F0 sa sc ca cc)) := ArrKit.Fr.row (Fr.alloc (Fr.refl _ _) _) _ _ (.inl (Nat.le_refl _)); have hfx := hf3.then0 hfr; have HX4 := jq7 (Fr.keep hfx HX2.o (fun h => h)); have HY4 := jq7 (Fr.keep hfx HY2.o (fun h => h)); have HF4 := jq7 (HF2.o.then0 hfx); have HA4 : Jq7 (DAt ((w3.alloc (.cells DZ 25)).setRow w3.heap.size (dval F0 sa sc ca cc)) w3.heap.size F0 sa sc ca cc) := jq7 ⟨ArrKit.Bk.row HZ3.o _, hv3.keep hfr⟩; have HG3 : Jq7 ((w.heap.size + 1) < w3.heap.size) := jq7 (Bk.lt (Fr.keep hf3 HY2.o (fun h => h))); clear hv3 hf3 hfr hfx) | ((with_reducible show wpList _ _ _ (qo _ (Op.store 25 _ _) _ _ _ _ _) _ _); refine wpList_store_row rfl 25 _ _ rfl w3.heap.size (dval F0 sa sc ca cc) rfl rfl 25 DZ HZ3.o (HID.o _ _ _ _ _) rfl (HDO.o _ _ _ _ _) ?_) | (go_at_call 29; (with_reducible refine (HFO.o _ _ _ _ _ _ HF4.o HA4.o).mono ?_); rintro e w5 ⟨rfl, ⟨s5, n5, c5, m5, hv5⟩, hf5⟩; have hg3 := HG3.o; have HZ5 := jq7 (Bk.new w5 (.cells RZ 28)); have hfr : Fr0 w5 ((w5.alloc (.cells RZ 28)).setRow w5.heap.size RZ) := ArrKit.Fr.row (Fr.alloc (Fr.refl _ _) _) _ _ (.inl (Nat.le_refl _)); have HX6 := jq7 (Fr.keep hfr (Fr.keep hf5 HX4.o (by omega)) (fun h => h)); have HY6 := jq7 (Fr.keep hfr (Fr.keep hf5 HY4.o (by omega)) (fun h => h)); have HF6 : Jq7 (Fr0 w ((w5.alloc (.cells RZ 28)).setRow w5.heap.size RZ)) := jq7 ((HF4.o.then hf5 (fun i hi e => by omega)).then0 hfr); have HA6 := jq7 (hv5.keep hfr); have HM6 : Jq7 (Bk ((w5.alloc (.cells RZ 28)).setRow w5.heap.size RZ) w5.heap.size RZ 28) := jq7 (ArrKit.Bk.row HZ5.o _); have HG5 : Jq7 (w3.heap.size < w5.heap.size) := jq7 (Bk.lt hv5.blk); clear hv5 hf5 hfr) | ((with_reducible show wpList _ _ _ (qo _ (Op.store 28 _ _) _ _ _ _ _) _ _); refine wpList_store_row rfl 28 _ _ rfl w5.heap.size RZ rfl rfl 28 RZ HZ5.o HIR.o rfl (RC_all _ _ _ _) ?_))
 refine wp_region_noPanic ?_
 refine wp_region_held_drew (S := (fun W : World => Bk W w3.heap.size (dval dB s5 n5 c5 m5) 25 ∧ Bk W w5.heap.size RZ 28 ∧ Fr0 w W)) (by kernel_rfl) (⟨Fr.keep (Fr.drew (Fr.refl (fun _ => False) _)) HA6.o.blk (fun h => h), Fr.keep (Fr.drew (Fr.refl (fun _ => False) _)) HM6.o (fun h => h), Fr.drew HF6.o⟩) (fun hL0 => ?_)
 have HX7 : Jq7 (Bk ((w5.alloc (.cells RZ 28)).setRow w5.heap.size RZ).drew w.heap.size DZ 25) := jq7 (Fr.keep (Fr.drew (Fr.refl (fun _ => False) _)) HX6.o (fun h => h))
 have HY7 : Jq7 (Bk ((w5.alloc (.cells RZ 28)).setRow w5.heap.size RZ).drew (w.heap.size + 1) RZ 28) := jq7 (Fr.keep (Fr.drew (Fr.refl (fun _ => False) _)) HY6.o (fun h => h))
 have HD7 : Jq7 (DV ((w5.alloc (.cells RZ 28)).setRow w5.heap.size RZ).drew dB s5 n5 c5 m5) := jq7 (DV.keep HA6.o.v (Fr.drew (Fr.refl (fun _ => False) _)))
 generalize ((w5.alloc (.cells RZ 28)).setRow w5.heap.size RZ).drew = wd at *
 refine tk (i := 0) (v := .agg (dval dB s5 n5 c5 m5)) rfl (yields_row (by kernel_rfl) 25 _ rfl (w3.heap.size) rfl 25 (dval dB s5 n5 c5 m5) (0, 0) _ (fun W h => h.1) Tryz.underlying25 rfl (HID.o _ _ _ _ _)) hL0 ?_
 refine tk (i := 1) (v := .agg RZ) rfl (yields_row (by kernel_rfl) 28 _ rfl (w5.heap.size) rfl 28 RZ (0, 0) _ (fun W h => h.2.1) Tryz.underlying28 rfl HIR.o) hL0 ?_
 simp only [Act.put, zA, zB, zC, zD, zE, zF]
 refine tk0 (i := 2) (v := .int .i64 0) rfl hL0 ?_
 refine tk (i := 3) (v := .bool true) rfl (Or.inl ⟨by kernel_rfl, fun w hSw => by go_simp <;> (first | exact beq_iff_eq.1 (by assumption) | exact beq_eq_false_iff_ne.1 (by assumption) | omega)⟩) hL0 ?_
 simp only [Act.put, zA, zB, zC, zD, zE, zF]
 refine tk0 (i := 4) (v := .bool true) rfl hL0 ?_
 refine tk0 (i := 5) (v := .int .i64 0) rfl hL0 ?_
 simp only [Act.put, zA, zB, zC, zD, zE, zF]
 refine tk (i := 6) (v := .bool true) rfl (Or.inl ⟨by kernel_rfl, fun w hSw => by go_simp <;> (first | exact beq_iff_eq.1 (by assumption) | exact beq_eq_false_iff_ne.1 (by assumption) | omega)⟩) hL0 ?_
 refine tk0 (i := 7) (v := .bool true) rfl hL0 ?_
 simp only [Act.put, zA, zB, zC, zD, zE, zF]
 change wpAnyH _ _ _ _ _ 3 #[true, true, true, true, true, true, true, true, false, false, false] _ _
 refine r1 8 rfl fun K hK => ?_
 simp only [zA, zB, zC]
 have hg3 := HG3.o
 have hg5 := HG5.o
 refine wp_store_row 25 _ _ rfl w.heap.size (dval dB s5 n5 c5 m5) rfl rfl 25 DZ HX7.o (HID.o _ _ _ _ _) rfl (HDO.o _ _ _ _ _) ?_
 have HX8 : Jq7 (Bk (wd.setRow w.heap.size (dval dB s5 n5 c5 m5)) w.heap.size (dval dB s5 n5 c5 m5) 25) := jq7 (ArrKit.Bk.row HX7.o _)
 have HY8 : Jq7 (Bk (wd.setRow w.heap.size (dval dB s5 n5 c5 m5)) (w.heap.size + 1) RZ 28) := jq7 (ArrKit.Bk.rowOther HY7.o _ (by omega))
 have HD8 : Jq7 (DV (wd.setRow w.heap.size (dval dB s5 n5 c5 m5)) dB s5 n5 c5 m5) := jq7 (DV.past HD7.o HOK3.o (Fr.row1 _ _ _) HX7.o DiskTwins.DZ_no)
 refine hK.out _ _ (⟨ArrKit.Bk.rowOther (hL0).1 _ (by omega), ArrKit.Bk.rowOther (hL0).2.1 _ (by omega), ArrKit.Fr.row (hL0).2.2 _ _ (.inl (by omega))⟩) (fun hL1 => ?_)
 clear hK K hL0
 generalize (wd.setRow w.heap.size (dval dB s5 n5 c5 m5)) = wA at *
 change wpAnyH _ _ _ _ _ 2 #[true, true, true, true, true, true, true, true, true, false, false] _ _
 refine r1 9 rfl fun K hK => ?_
 simp only [zA, zB, zC]
 refine wp_store_row 28 _ _ rfl (w.heap.size + 1) RZ rfl rfl 28 RZ HY8.o HIR.o rfl (RC_all _ _ _ _) ?_
 have HX9 : Jq7 (Bk (wA.setRow (w.heap.size + 1) RZ) w.heap.size (dval dB s5 n5 c5 m5) 25) := jq7 (ArrKit.Bk.rowOther HX8.o _ (by omega))
 have HY9 : Jq7 (Bk (wA.setRow (w.heap.size + 1) RZ) (w.heap.size + 1) RZ 28) := jq7 (ArrKit.Bk.row HY8.o _)
 have HD9 : Jq7 (DV (wA.setRow (w.heap.size + 1) RZ) dB s5 n5 c5 m5) := jq7 (DV_past HD8.o HOK3.o (Fr.row1 _ _ _) HY8.o (rc_no 0 none 0 0))
 refine hK.out _ _ (⟨ArrKit.Bk.rowOther (hL1).1 _ (by omega), ArrKit.Bk.rowOther (hL1).2.1 _ (by omega), ArrKit.Fr.row (hL1).2.2 _ _ (.inl (by omega))⟩) (fun hL2 => ?_)
 clear hK K hL1
 generalize (wA.setRow (w.heap.size + 1) RZ) = wB at *
 refine tk0 (i := 10) (v := .bool true) rfl hL2 ?_
 simp only [Act.put, zA, zB, zC, zD, zE, zF]
 change wpAnyH _ _ _ _ _ 0 #[true, true, true, true, true, true, true, true, true, true, true] _ _
 refine wpAnyH_done (by kernel_rfl) ?_ _
 refine NoPanic.normal ?_
 have HEND := jq7 hL2
 clear hL2
 go_wp2
 refine fin_cct w.heap.size (w.heap.size + 1) 25 28 (dval dB s5 n5 c5 m5) RZ (.bool true) (by rfl) (by rfl) (by rfl) (by rfl) (by rfl) Tryz.underlying25 (by rfl) (HID.o _ _ _ _ _) Tryz.underlying28 (by rfl) HIR.o HX9.o HY9.o ?_
 exact ⟨_, _, _, _, rfl, HD9.o, HEND.o.2.2⟩

end Go.Proofs.YtmkmpfnadcmcoaaGreatDoor.DitFresh
namespace Go.Proofs.YtmkmpfnadcmcoaaGreatDoor.DitPut
open Go Go.RowKit K EqKit ArrKit HeldKit GKit GRow DiskKit RmKit MapKit ShaStep ShaRef ShaSum ShaRSum RmRight RmRRight RmTab RmPut RmAsk RmSame DiskRRead RmRead RmReads DiskAct RmSpare RmKeep RmAliveP RmWrX RmWrite RmPair RowG PtrKit DitKit DitAsk DitHome DitGet
theorem row_at2 {w : World} {base : Nat} {v : Value} {l : List Int} (h : Row FI 1 3 w base v l) (hl : 0 < l.length) : ∃ zb k, v = .slice (some ⟨zb, 0, none⟩) l.length k ∧ l.length ≤ k ∧ base ≤ zb ∧ zb < w.heap.size ∧ ∀ j (hj : j < l.length), w.cell? ⟨zb, j, none⟩ = some (.int .i64 l[j]) := by
 obtain ⟨z, k, hv, hle, -, hrd, -, hz⟩ := h.form
 obtain ⟨zb, zo, rfl, -, -⟩ := RdG.form hrd hl (fun _ => by simp [FI])
 have e := (hz _ rfl).2
 have e0 : zo = 0 := by injection e
 subst e0
 have hb := h.blk _ (hz _ rfl).1
 refine ⟨zb, k, hv, hle, hb.1, hb.2, fun j hj => ?_⟩
 have := RdG.at hrd hj 0 (.int .i64 l[j]) rfl
 rwa [Nat.zero_add, Nat.mul_one, Nat.add_zero] at this
/-- a pointer's block is no place of sectors or writes; a table without pairs has none -/
theorem PS.pastP {w w1 : World} {p r g t : Nat} {d : Dk} {m : Rm} {cs : Array Value} (h : PS w p r d m) (hok : d.ok) (hm : m.ps = []) (hb : Bk w g cs t) (hc : cs.size = 34) (f : Fr (fun i => i = g) w w1) (hp : p ≠ g) (hr : r ≠ g) : PS w1 p r d m := by
 obtain ⟨⟨sa, sc, ca, cc, h1⟩, a, c, h2, h3⟩ := h
 have big : ∀ k v, w.cell? ⟨g, k, none⟩ = some v → k < 34 := fun k v hk => by
  rw [Bk.cell hb] at hk
  rcases Nat.lt_or_ge k 34 with h | h
  ·exact h
  ·rw [Array.getElem?_eq_none (by omega)] at hk; cases hk
 have hS : RdS w1 sa d.S := RdG.later h1.v.rs f (fun x e hl => by
  subst e
  rintro rfl
  have h0 := List.length_pos_iff.2 hl
  obtain ⟨b, o, e0, -, hat⟩ := RdG.form h1.v.rs h0 Sec.pos
  cases e0
  have := big _ _ (hat 0 h0 128 _ (Sec.nr_at (hok.s _ (List.getElem_mem h0))))
  omega)
 have hC : RdC w1 ca d.C := RdG.later h1.v.rc f (fun x e hl => by
  subst e
  rintro rfl
  have h0 := List.length_pos_iff.2 hl
  obtain ⟨b, o, e0, -, hat⟩ := RdG.form h1.v.rc h0 Wri.ps
  cases e0
  have hlen := Wri.leng (hok.c _ (List.getElem_mem h0))
  obtain ⟨v, hv⟩ : ∃ v, (Wri.cells (d.C[0]'h0))[128]? = some v := ⟨_, List.getElem?_eq_getElem (by omega)⟩
  have := big _ _ (hat 0 h0 128 _ hv)
  omega)
 exact ⟨⟨sa, sc, ca, cc, f.keep h1.blk hp, ⟨hS, hC, h1.v.sn, h1.v.sm, h1.v.cn, h1.v.cm⟩⟩, a, c, f.keep h2 hr, ⟨RdG.later h3.rd f (fun x e hl => absurd hm hl), h3.len, h3.max⟩⟩

theorem put_calls (p r : Nat) (d D1 D2 : Dk) (m : Rm) (bl : List UInt8) (a c : Int) (w : World) (hok : d.ok) (hm : m.ok) (hmp : m.ps = []) (hps : PS w p r d m) (hrp : r ≠ p) (hsh : Sh w) (hbl : bl.length = 128) (ha : (Lit.int .i64 a).wf = true) (hc : (Lit.int .i64 c).wf = true) (hC : d.C.length ≤ 800) (hof : PtrOf.okB a c = true) (hho : homeB d m a c (sumOf bl) = true) (hane : a ≠ -1)
  (h1 : wrX d m a bl = (0, D1, m)) (h2 : c = -1 ∧ D2 = D1 ∨ c ≠ -1 ∧ wrX D1 m c bl = (0, D2, m)) : Calls Tryz.prog 17 #[.pointer (some ⟨p, 0, none⟩), .pointer (some ⟨r, 0, none⟩), .agg (bl.map B).toArray, .int .i64 a, .int .i64 c] w fun e w' => e = .returned (.tuple #[.agg (PC a c (sumOf bl)).toArray, .int .i64 0]) ∧ PS w' p r D2 m ∧ Fr (fun i => i = p ∨ i = r) w w' := by
 have hsl : (sumOf bl).length = 32 := sumOf_length bl
 have HOF : Jq7 (∀ W, Fr0 w W → Calls Tryz.prog 30 #[.agg (bl.map B).toArray, .int .i64 a, .int .i64 c] W fun e w' => e = .returned (.tuple #[.agg (PC a c (sumOf bl)).toArray, .int .i64 0]) ∧ Fr0 W w') := jq7 (fun W f => by
  obtain ⟨⟨tk, hK⟩, ⟨tb, hB⟩⟩ := hsh.keep0 f
  have := PtrOf.of_calls bl hbl a c W ha hc hK hB
  unfold PtrOf.ofP PtrOf.ofE at this
  rw [hof] at this
  exact this)
 have HHO : Jq7 (∀ W, Fr0 w W → Calls Tryz.prog 20 #[.pointer (some ⟨p, 0, none⟩), .pointer (some ⟨r, 0, none⟩), .agg (PC a c (sumOf bl)).toArray] W fun e w' => e = .returned (.bool true) ∧ Fr0 W w') := jq7 (fun W f => by have := home_calls p r d m a c (sumOf bl) W hok hm (hps.keep0 f) hsl ha hc; rwa [hho] at this)
 have HCO : Jq7 (∀ W, Calls Tryz.prog 22 #[.agg (PC a c (sumOf bl)).toArray] W fun e w' => ∃ zb k, e = .returned (.slice (some ⟨zb, 0, none⟩) (copL a c).length k) ∧ W.heap.size ≤ zb ∧ zb < w'.heap.size ∧ (∀ j (hj : j < (copL a c).length), w'.cell? ⟨zb, j, none⟩ = some (.int .i64 (copL a c)[j])) ∧ (copL a c).length ≤ k ∧ Fr0 W w') := jq7 (fun W => (copies_calls a c (sumOf bl) W hane).mono (by
  rintro e w' ⟨v, rfl, hrow, hf⟩
  obtain ⟨zb, k, hv, hle, hb1, hb2, hcl⟩ := row_at2 hrow (by unfold copL; split <;> simp)
  exact ⟨zb, k, by rw [hv], hb1, hb2, hcl, hle, hf⟩))
 have ho1 := wrX_ok hok hm ha hbl
 have hc1 := wrX_C hok hm ha hbl
 rw [h1] at ho1 hc1
 have hc1' : D1.C.length ≤ d.C.length + 23 := hc1
 have HW : Jq7 (∀ (D D' : Dk) (q : Int) W, D.ok → D.C.length ≤ 900 → (Lit.int .i64 q).wf = true → wrX D m q bl = (0, D', m) → Sh W → PS W p r D m → Calls Tryz.prog 31 #[.pointer (some ⟨p, 0, none⟩), .pointer (some ⟨r, 0, none⟩), .int .i64 q, .agg (bl.map B).toArray] W fun e w' => e = .returned (.int .i64 0) ∧ PS w' p r D' m ∧ Fr (fun i => i = p ∨ i = r) W w') := jq7 (fun D D' q W hD hDC hq hx hs h => by
  obtain ⟨⟨sa, sc, ca, cc, g1⟩, ra, rc, g2, g3⟩ := h
  have := write_calls p r D sa sc ca cc m ra rc bl q W hD g1 hm g3 hbl g2 hrp hs hq hDC
  rw [hx] at this
  exact this.mono (fun e w' h => ⟨h.1, ⟨h.2.1, h.2.2.1⟩, h.2.2.2⟩))
 have HW1 := jq7 (fun W => HW.o d D1 a W hok (by omega) ha h1)
 have HO1 : Jq7 (D1.ok) := jq7 ho1.1
 have HW2 : Jq7 (c ≠ -1 → D2.ok ∧ ∀ W, Sh W → PS W p r D1 m → Calls Tryz.prog 31 #[.pointer (some ⟨p, 0, none⟩), .pointer (some ⟨r, 0, none⟩), .int .i64 c, .agg (bl.map B).toArray] W fun e w' => e = .returned (.int .i64 0) ∧ PS w' p r D2 m ∧ Fr (fun i => i = p ∨ i = r) W w') := jq7 (fun hne => by
  rcases h2 with ⟨e, -⟩ | ⟨-, hx⟩
  ·exact absurd e hne
  ·have ho2 := wrX_ok (n := c) ho1.1 hm hc hbl
   rw [hx] at ho2
   exact ⟨ho2.1, fun W => HW.o D1 D2 c W ho1.1 (by omega) hc hx⟩)
 have HMP := jq7 hmp
 have HSH := jq7 hsh
 have HPS := jq7 hps
 have HPW : Jq7 (p < w.heap.size ∧ r < w.heap.size) := jq7 (by
  obtain ⟨⟨sa, sc, ca, cc, hv⟩, ra, rc, hb1, -⟩ := hps
  exact ⟨Bk.lt hv.blk, Bk.lt hb1⟩)
 have HN01 : Jq7 (p ≠ 1 ∧ p ≠ 0 ∧ r ≠ 1 ∧ r ≠ 0) := jq7 (by
  obtain ⟨⟨sa, sc, ca, cc, hv⟩, ra, rc, hb1, -⟩ := hps
  have e1 := hsh.ne hv.blk (by show (4 : Nat) ≠ 8; decide) (by show (4 : Nat) ≠ 64; decide)
  have e2 := hsh.ne hb1 (by show (2 : Nat) ≠ 8; decide) (by show (2 : Nat) ≠ 64; decide)
  exact ⟨e1.1, e1.2, e2.1, e2.2⟩)
 have HIP := jq7 (info_ptr a c hsl)
 have HSP : Jq7 (PtrAsk.ZERO.size = (PC a c (sumOf bl)).toArray.size) := jq7 (by
  have h : (PC a c (sumOf bl)).toArray.size = 34 := by rw [List.size_toArray, PC_length, hsl]
  rw [h]; rfl)
 have HS34 : Jq7 (PtrAsk.ZERO.size = 34) := jq7 (by rfl)
 have HOP : Jq7 ((PC a c (sumOf bl)).toArray.all (·.oneCell') = true) := jq7 (by
  rw [List.all_toArray]
  simp [PC, Value.oneCell', B_def])
 have HIB := jq7 (info_l hbl)
 have hzp : ∀ W, (zeroValue 31).run Tryz.prog W = .ok (.agg PtrAsk.ZERO) W := by intro W; kernel_rfl
 have hcl : copL a c = if c = -1 then [a] else [a, c] := rfl
 have hD2 : c = -1 → D2 = D1 := fun e => by rcases h2 with ⟨-, h⟩ | ⟨h, -⟩; exact h; exact absurd e h
 clear hok hm hmp hps hrp hsh hbl ha hc hC hof hho hane h1 h2 ho1 hc1 hc1' hsl HW
 generalize (PC a c (sumOf bl)).toArray = PX at *
 generalize (bl.map B).toArray = LB at *
 have HB2 : Jq7 (Bk ((w.alloc (.cells LB 36)).alloc (.cells PtrAsk.ZERO 31)) w.heap.size LB 36) := jq7 (Bk.alloc (Bk.new w _) _)
 have HZ2 : Jq7 (Bk ((w.alloc (.cells LB 36)).alloc (.cells PtrAsk.ZERO 31)) (w.heap.size + 1) PtrAsk.ZERO 31) := jq7 (by have := Bk.new (w.alloc (.cells LB 36)) (.cells PtrAsk.ZERO 31); rwa [show (w.alloc (.cells LB 36)).heap.size = w.heap.size + 1 by simp] at this)
 have HF2 : Jq7 (Fr0 w ((w.alloc (.cells LB 36)).alloc (.cells PtrAsk.ZERO 31))) := jq7 (Fr.alloc (Fr.alloc (Fr.refl _ _) _) _)
 by_cases hb1 : c = -1
 ·have hl : copL a c = [a] := by rw [hcl, if_pos hb1]
  rw [hl] at HCO
  have e2 := hD2 hb1
  subst e2
  clear hcl hl hD2 HW2 hb1
  go_enter Tryz.func17, Tryz.ntmps17
  go_wp2_with (first | ((with_reducible show wpList _ _ _ (qo _ (Op.load 36 _) _ _ _ _ _) _ _); refine lr 36 w.heap.size LB HB2.o HIB.o ?_) | (go_at_call 30; (with_reducible refine (HOF.o _ HF2.o).mono ?_); rintro e w3 ⟨rfl, hf3⟩; have HQ3 := jq7 (Bk.new w3 (.cells PtrAsk.ZERO 31)); have hfx := Fr.then0 hf3 (show Fr0 w3 ((w3.alloc (.cells PtrAsk.ZERO 31)).setRow w3.heap.size PX) from ArrKit.Fr.row (Fr.alloc (Fr.refl _ _) _) _ _ (.inl (Nat.le_refl _))); have HB4 := jq7 (Fr.keep hfx HB2.o (fun h => h)); have HZ4 := jq7 (Fr.keep hfx HZ2.o (fun h => h)); have HF4 := jq7 (HF2.o.then0 hfx); have HY4 : Jq7 (Bk ((w3.alloc (.cells PtrAsk.ZERO 31)).setRow w3.heap.size PX) w3.heap.size PX 31) := jq7 (ArrKit.Bk.row HQ3.o _); have HG3 : Jq7 ((w.heap.size + 1) < w3.heap.size) := jq7 (Bk.lt (Fr.keep hf3 HZ2.o (fun h => h))); clear hf3 hfx) | ((with_reducible show wpList _ _ _ (qo _ (Op.store 31 _ _) _ _ _ _ _) _ _); refine wpList_store_row rfl 31 _ _ rfl w3.heap.size PX rfl rfl 31 PtrAsk.ZERO HQ3.o HIP.o HSP.o HOP.o ?_) | ((with_reducible show wpList _ _ _ (qo _ (Op.load 31 _) _ _ _ _ _) _ _); refine lr 31 w3.heap.size PX HY4.o HIP.o ?_) | (go_at_call 20; (with_reducible refine (HHO.o _ HF4.o).mono ?_); rintro e w5 ⟨rfl, hf5⟩; have HB5 := jq7 (Fr.keep hf5 HB4.o (fun h => h)); have HZ5 := jq7 (Fr.keep hf5 HZ4.o (fun h => h)); have HY5 := jq7 (Fr.keep hf5 HY4.o (fun h => h)); have HF5 := jq7 (HF4.o.then0 hf5); clear hf5) | ((with_reducible show wpList _ _ _ (qo _ (Op.load 31 _) _ _ _ _ _) _ _); refine lr 31 w3.heap.size PX HY5.o HIP.o ?_) | (go_at_call 22; (with_reducible refine (HCO.o _).mono ?_); rintro e w6 ⟨zb, zk, rfl, hz1, hz2, hzc, hzk, hf6⟩; have HB6 := jq7 (Fr.keep hf6 HB5.o (fun h => h)); have HZ6 := jq7 (Fr.keep hf6 HZ5.o (fun h => h)); have HY6 := jq7 (Fr.keep hf6 HY5.o (fun h => h)); have HF6 := jq7 (HF5.o.then0 hf6); have HZB : Jq7 (w.heap.size ≤ zb ∧ zb < w6.heap.size) := jq7 ⟨Nat.le_trans HF5.o.size hz1, hz2⟩; have z60 := hzc 0 (by simp); have HZC := jq7 hzc; clear hz1 hz2 hzc hf6))
  have HS6 := jq7 (HSH.o.keep0 HF6.o)
  refine wp_loop_rounds 3 ?_
  rw [rounds_succ]
  go_wp2_with (first | ((with_reducible show wpList _ _ _ (qo _ (Op.load 36 _) _ _ _ _ _) _ _); refine lr 36 w.heap.size LB HB6.o HIB.o ?_) | (go_at_call 31; (with_reducible refine (HW1.o _ HS6.o (HPS.o.keep0 HF6.o)).mono ?_); rintro e w7 ⟨rfl, hp7, hf7⟩; have hpw := HPW.o; have hg3 := HG3.o; have HB7 := jq7 (Fr.keep hf7 HB6.o (by omega)); have HZ7 := jq7 (Fr.keep hf7 HZ6.o (by omega)); have HY7 := jq7 (Fr.keep hf7 HY6.o (by omega)); have HP7 := jq7 hp7; have HF7 := jq7 ((HF6.o.weaken (fun _ _ h => h.elim)).trans hf7); have hn01 := HN01.o; have HS7 := jq7 (HS6.o.keep hf7 (by omega) (by omega)); have hzb := HZB.o; have z71 := fun h => (hf7.cell zb 1 hzb.2 (by omega)).trans (HZC.o 1 h); clear hp7 hf7))
  rw [rounds_succ]
  go_wp2_with (first | ((with_reducible show wpList _ _ _ (qo _ (Op.load 31 _) _ _ _ _ _) _ _); refine lr 31 w3.heap.size PX HY7.o HIP.o ?_) | ((with_reducible show wpList _ _ _ (qo _ (Op.store 31 _ _) _ _ _ _ _) _ _); refine wpList_store_row rfl 31 _ _ rfl (w.heap.size + 1) PX rfl rfl 31 PtrAsk.ZERO HZ7.o HIP.o HSP.o HOP.o ?_))
  have hpw := HPW.o
  refine fin_ct (w.heap.size + 1) 31 PX (.int .i64 0) (by rfl) (by rfl) (by rfl) (by rfl) Tryz.underlying31 (by rfl) HIP.o (ArrKit.Bk.row HZ7.o _) ?_
  exact ⟨rfl, PS.pastP HP7.o HO1.o HMP.o HZ7.o HS34.o (Fr.row1 _ _ _) (by omega) (by omega), ArrKit.Fr.row HF7.o (w.heap.size + 1) _ (.inl (by omega))⟩
 ·have hl : copL a c = [a, c] := by rw [hcl, if_neg hb1]
  rw [hl] at HCO
  obtain ⟨ho2, hw2⟩ := HW2.o hb1
  have HO2 := jq7 ho2
  have HW3 := jq7 hw2
  clear hcl hl hD2 HW2 hb1 ho2 hw2
  go_enter Tryz.func17, Tryz.ntmps17
  go_wp2_with (first | ((with_reducible show wpList _ _ _ (qo _ (Op.load 36 _) _ _ _ _ _) _ _); refine lr 36 w.heap.size LB HB2.o HIB.o ?_) | (go_at_call 30; (with_reducible refine (HOF.o _ HF2.o).mono ?_); rintro e w3 ⟨rfl, hf3⟩; have HQ3 := jq7 (Bk.new w3 (.cells PtrAsk.ZERO 31)); have hfx := Fr.then0 hf3 (show Fr0 w3 ((w3.alloc (.cells PtrAsk.ZERO 31)).setRow w3.heap.size PX) from ArrKit.Fr.row (Fr.alloc (Fr.refl _ _) _) _ _ (.inl (Nat.le_refl _))); have HB4 := jq7 (Fr.keep hfx HB2.o (fun h => h)); have HZ4 := jq7 (Fr.keep hfx HZ2.o (fun h => h)); have HF4 := jq7 (HF2.o.then0 hfx); have HY4 : Jq7 (Bk ((w3.alloc (.cells PtrAsk.ZERO 31)).setRow w3.heap.size PX) w3.heap.size PX 31) := jq7 (ArrKit.Bk.row HQ3.o _); have HG3 : Jq7 ((w.heap.size + 1) < w3.heap.size) := jq7 (Bk.lt (Fr.keep hf3 HZ2.o (fun h => h))); clear hf3 hfx) | ((with_reducible show wpList _ _ _ (qo _ (Op.store 31 _ _) _ _ _ _ _) _ _); refine wpList_store_row rfl 31 _ _ rfl w3.heap.size PX rfl rfl 31 PtrAsk.ZERO HQ3.o HIP.o HSP.o HOP.o ?_) | ((with_reducible show wpList _ _ _ (qo _ (Op.load 31 _) _ _ _ _ _) _ _); refine lr 31 w3.heap.size PX HY4.o HIP.o ?_) | (go_at_call 20; (with_reducible refine (HHO.o _ HF4.o).mono ?_); rintro e w5 ⟨rfl, hf5⟩; have HB5 := jq7 (Fr.keep hf5 HB4.o (fun h => h)); have HZ5 := jq7 (Fr.keep hf5 HZ4.o (fun h => h)); have HY5 := jq7 (Fr.keep hf5 HY4.o (fun h => h)); have HF5 := jq7 (HF4.o.then0 hf5); clear hf5) | ((with_reducible show wpList _ _ _ (qo _ (Op.load 31 _) _ _ _ _ _) _ _); refine lr 31 w3.heap.size PX HY5.o HIP.o ?_) | (go_at_call 22; (with_reducible refine (HCO.o _).mono ?_); rintro e w6 ⟨zb, zk, rfl, hz1, hz2, hzc, hzk, hf6⟩; have HB6 := jq7 (Fr.keep hf6 HB5.o (fun h => h)); have HZ6 := jq7 (Fr.keep hf6 HZ5.o (fun h => h)); have HY6 := jq7 (Fr.keep hf6 HY5.o (fun h => h)); have HF6 := jq7 (HF5.o.then0 hf6); have HZB : Jq7 (w.heap.size ≤ zb ∧ zb < w6.heap.size) := jq7 ⟨Nat.le_trans HF5.o.size hz1, hz2⟩; have z60 := hzc 0 (by simp); have HZC := jq7 hzc; clear hz1 hz2 hzc hf6))
  have HS6 := jq7 (HSH.o.keep0 HF6.o)
  refine wp_loop_rounds 3 ?_
  rw [rounds_succ]
  go_wp2_with (first | ((with_reducible show wpList _ _ _ (qo _ (Op.load 36 _) _ _ _ _ _) _ _); refine lr 36 w.heap.size LB HB6.o HIB.o ?_) | (go_at_call 31; (with_reducible refine (HW1.o _ HS6.o (HPS.o.keep0 HF6.o)).mono ?_); rintro e w7 ⟨rfl, hp7, hf7⟩; have hpw := HPW.o; have hg3 := HG3.o; have HB7 := jq7 (Fr.keep hf7 HB6.o (by omega)); have HZ7 := jq7 (Fr.keep hf7 HZ6.o (by omega)); have HY7 := jq7 (Fr.keep hf7 HY6.o (by omega)); have HP7 := jq7 hp7; have HF7 := jq7 ((HF6.o.weaken (fun _ _ h => h.elim)).trans hf7); have hn01 := HN01.o; have HS7 := jq7 (HS6.o.keep hf7 (by omega) (by omega)); have hzb := HZB.o; have z71 := fun h => (hf7.cell zb 1 hzb.2 (by omega)).trans (HZC.o 1 h); clear hp7 hf7))
  have c71 := z71 (by simp)
  rw [rounds_succ]
  go_wp2_with (first | ((with_reducible show wpList _ _ _ (qo _ (Op.load 36 _) _ _ _ _ _) _ _); refine lr 36 w.heap.size LB HB7.o HIB.o ?_) | (go_at_call 31; (with_reducible refine (HW3.o _ HS7.o HP7.o).mono ?_); rintro e w8 ⟨rfl, hp8, hf8⟩; have hpw := HPW.o; have hg3 := HG3.o; have HB8 := jq7 (Fr.keep hf8 HB7.o (by omega)); have HZ8 := jq7 (Fr.keep hf8 HZ7.o (by omega)); have HY8 := jq7 (Fr.keep hf8 HY7.o (by omega)); have HP8 := jq7 hp8; have HF8 := jq7 (HF7.o.trans hf8); have hn01 := HN01.o; have HS8 := jq7 (HS7.o.keep hf8 (by omega) (by omega)); clear hp8 hf8))
  rw [rounds_succ]
  go_wp2_with (first | ((with_reducible show wpList _ _ _ (qo _ (Op.load 31 _) _ _ _ _ _) _ _); refine lr 31 w3.heap.size PX HY8.o HIP.o ?_) | ((with_reducible show wpList _ _ _ (qo _ (Op.store 31 _ _) _ _ _ _ _) _ _); refine wpList_store_row rfl 31 _ _ rfl (w.heap.size + 1) PX rfl rfl 31 PtrAsk.ZERO HZ8.o HIP.o HSP.o HOP.o ?_))
  have hpw := HPW.o
  refine fin_ct (w.heap.size + 1) 31 PX (.int .i64 0) (by rfl) (by rfl) (by rfl) (by rfl) Tryz.underlying31 (by rfl) HIP.o (ArrKit.Bk.row HZ8.o _) ?_
  exact ⟨rfl, PS.pastP HP8.o HO2.o HMP.o HZ8.o HS34.o (Fr.row1 _ _ _) (by omega) (by omega), ArrKit.Fr.row HF8.o (w.heap.size + 1) _ (.inl (by omega))⟩

end Go.Proofs.YtmkmpfnadcmcoaaGreatDoor.DitPut
