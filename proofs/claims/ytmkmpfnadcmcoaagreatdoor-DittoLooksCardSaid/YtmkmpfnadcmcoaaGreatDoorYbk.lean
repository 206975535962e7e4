/- The theorems that the claim uses, text behind text (part 37). -/
import Derived.Test.YtmkmpfnadcmcoaaGreatDoorYao
import Derived.Test.YtmkmpfnadcmcoaaGreatDoorYav
import Derived.Test.YtmkmpfnadcmcoaaGreatDoorYbb
import Derived.Test.YtmkmpfnadcmcoaaGreatDoorYbd
set_option maxRecDepth 100000
set_option maxHeartbeats 8000000
set_option linter.unusedVariables false
set_option linter.unusedSimpArgs false
namespace Go.Proofs.YtmkmpfnadcmcoaaGreatDoor.DitAliveP
open Go Go.RowKit K EqKit ArrKit HeldKit GKit GRow DiskKit RmKit MapKit ShaStep ShaRef ShaPad ShaSum ShaRSum RmRight RmRRight RmTab RmPut RmAsk RmSame DiskRRead RmRead RmReads DiskAct RmSpare RmKeep RmFirst RmFormat DiskNew DiskHit DiskLay RmAliveP RmWrX DitKit
def B6 : List UInt8 := 6 :: List.replicate 127 0
def F0 : Dk := newD 60
def F1 (T : List UInt8) : Dk := writeD F0 0 T
def F2 (T : List UInt8) : Dk := writeD (F1 T) 20 T
def F3 (T : List UInt8) : Dk := flushD (F2 T)
def F4 (T : List UInt8) : Dk := writeD (F3 T) 3 B7
def F5 (T : List UInt8) : Dk := writeD (F4 T) 25 B7
def F6 (T : List UInt8) : Dk := flushD (F5 T)
def F7 (T : List UInt8) : Dk := hitD (F6 T) 3 1 0 1
def F8 (T : List UInt8) : Dk := writeD (F7 T) 3 B7
section
variable (T s : List UInt8)
theorem f_h : hvI F0 = 20 := by kernel_rfl
theorem f_s0 : F0.S.length = 60 := by kernel_rfl
theorem f_c0 : F0.C.length = 0 := by kernel_rfl
theorem f_w0 : writeE F0 0 = 0 := by kernel_rfl
theorem f_w1 : writeE (F1 T) 20 = 0 := by kernel_rfl
theorem f_f2 : flushE (F2 T) = 0 := by kernel_rfl
theorem f_c3 : (F3 T).C.length = 0 := by kernel_rfl
theorem f_home : homeB (F3 T) MA 3 25 s = true := by kernel_rfl
theorem f_p1 : wrX (F3 T) MA 3 B7 = (0, F4 T, MA) := by kernel_rfl
theorem f_p2 : wrX (F4 T) MA 25 B7 = (0, F5 T, MA) := by kernel_rfl
theorem f_f5 : flushE (F5 T) = 0 := by kernel_rfl
theorem f_c7 : (F7 T).C.length = 0 := by kernel_rfl
theorem f_home7 : homeB (F7 T) MA 3 25 s = true := by kernel_rfl
theorem f_rd3 : rdX (F7 T) MA 3 = (B6, 0) := by kernel_rfl
theorem f_rd25 : rdX (F7 T) MA 25 = (B7, 0) := by kernel_rfl
theorem f_hole : PtrAsk.isH 3 25 s = false := by kernel_rfl
theorem f_up : (F7 T).down = false := by kernel_rfl
theorem f_wr7 : wrX (F7 T) MA 3 B7 = (0, F8 T, MA) := by kernel_rfl
end
theorem sums_ne : sumOf B6 ≠ sumOf B7 := by decide
theorem get_of {d d' : Dk} {m : Rm} {a b : Int} {s x y : List UInt8} (h1 : homeB d m a b s = true) (h2 : PtrAsk.isH a b s = false) (h3 : d.down = false) (h4 : rdX d m a = (x, 0)) (h5 : rdX d m b = (y, 0)) (h6 : sumOf x ≠ s) (h7 : sumOf y = s) (h8 : wrX d m a y = (0, d', m)) (hb : b ≠ -1) : getX d m a b s = ((y, 1, 0), d', m) := by
 have g3 : rdG d m a b s a = (x, false) := by
  unfold rdG PtrFitB.fitB
  rw [h4, h2, if_neg (by decide), decide_eq_false h6, Bool.and_false]
 have g25 : rdG d m a b s b = (y, true) := by
  unfold rdG PtrFitB.fitB
  rw [h5, h2, if_neg (by decide), decide_eq_true h7];rfl
 have gh : healX d m a y = (1, 0, d', m) := by
  unfold healX
  rw [h8];rfl
 unfold getX
 rw [if_neg (by rw [h1];decide), if_neg (by rw [h2];decide), if_neg (by rw [h3];decide), g3, g25, if_neg (show ¬ false = true by decide), if_neg hb, if_neg (show ¬ true = false by decide), gh, if_neg (show ¬ (0 : Int) ≠ 0 by decide)]
theorem f_get (T : List UInt8) : getX (F7 T) MA 3 25 (sumOf B7) = ((B7, 1, 0), F8 T, MA) := get_of (f_home7 T _) (f_hole _) (f_up T) (f_rd3 T) (f_rd25 T) sums_ne rfl (f_wr7 T) (by decide)

end Go.Proofs.YtmkmpfnadcmcoaaGreatDoor.DitAliveP
namespace Go.Proofs.YtmkmpfnadcmcoaaGreatDoor.DitFresh
open Go Go.RowKit K EqKit ArrKit HeldKit GKit GRow DiskKit RmKit MapKit ShaStep ShaRef ShaPad ShaSum ShaRSum RmRight RmRRight RmTab RmPut RmAsk RmSame DiskRRead RmRead RmReads DiskAct RmSpare RmKeep RmFirst RmFormat DiskNew DiskHit DiskLay RmAliveP RmWrX RmPair DitKit DitAliveP
theorem results_cct {P : Program} {fn : Func} {p q u : Tmp} {ty ty' : TypeId} (h : fn.results = #[.cell p ty, .cell q ty', .tmp u]) (tmps : Array Value) (w : World) (g g' : Nat) (t t' : TypeId) (cs cs' : Array Value) (d d' : TypeDesc)
  (hp : tmps.getD p undef = .pointer (some ⟨g, 0, none⟩)) (hq : tmps.getD q undef = .pointer (some ⟨g', 0, none⟩)) (hg : w.heap[g]? = some (.cells cs t (0, 0))) (hg' : w.heap[g']? = some (.cells cs' t' (0, 0)))
  (hu : P.underlying ty = some d) (hd : (match d with | .struct _ | .array _ _ => true | _ => false) = true) (hi : (P.info? ty).map (·.size) = some cs.size)
  (hu' : P.underlying ty' = some d') (hd' : (match d' with | .struct _ | .array _ _ => true | _ => false) = true) (hi' : (P.info? ty').map (·.size) = some cs'.size) :
  (results fn tmps).run P w = .ok (.tuple #[.agg cs, .agg cs', tmps.getD u undef]) w := by
 have hp' : tmps[p]?.getD undef = .pointer (some ⟨g, 0, none⟩) := by simpa using hp
 have hq' : tmps[q]?.getD undef = .pointer (some ⟨g', 0, none⟩) := by simpa using hq
 simp [results, h, hp', hq', asAddr, run_loadVar_row w g t ty cs (0, 0) d hg hu hd hi, run_loadVar_row w g' t' ty' cs' (0, 0) d' hg' hu' hd' hi']
theorem fin_cct {P : Program} {fn : Func} {R : Ending → World → Prop} {a : Act} {w : World} {p q u : Tmp} {ty ty' : TypeId} (g g' : Nat) (t t' : TypeId) (cs cs' : Array Value) (x : Value) {d d' : TypeDesc}
  (h : fn.results = #[.cell p ty, .cell q ty', .tmp u]) (hp : a.tmps.getD p undef = .pointer (some ⟨g, 0, none⟩)) (hq : a.tmps.getD q undef = .pointer (some ⟨g', 0, none⟩)) (hx : a.tmps.getD u undef = x) (hds : a.defers = [])
  (hu : P.underlying ty = some d) (hd : (match d with | .struct _ | .array _ _ => true | _ => false) = true) (hi : (P.info? ty).map (·.size) = some cs.size)
  (hu' : P.underlying ty' = some d') (hd' : (match d' with | .struct _ | .array _ _ => true | _ => false) = true) (hi' : (P.info? ty').map (·.size) = some cs'.size)
  (hg : w.heap[g]? = some (.cells cs t (0, 0))) (hg' : w.heap[g']? = some (.cells cs' t' (0, 0))) (hR : R (.returned (.tuple #[.agg cs, .agg cs', x])) w) : bodyPost P fn R .ret a w := by
 subst hx
 exact bodyPost_ret (results_cct h _ _ g g' t t' cs cs' d d' hp hq hg hg' hu hd hi hu' hd' hi') hds hR
theorem f_ok (T : List UInt8) (hT : T.length = 128) : F0.ok ∧ (F3 T).ok ∧ (F4 T).ok ∧ (F5 T).ok ∧ (F6 T).ok ∧ (F7 T).ok ∧ (F8 T).ok := by
 have h0 : F0.ok := newD_ok 60
 have h1 : (F1 T).ok := writeD_ok (q := 0) h0 hT (by decide)
 have h2 : (F2 T).ok := writeD_ok (q := 20) h1 hT (by decide)
 have h3 : (F3 T).ok := flushD_ok h2
 have h4 : (F4 T).ok := writeD_ok (q := 3) h3 B7_len (by decide)
 have h5 : (F5 T).ok := writeD_ok (q := 25) h4 B7_len (by decide)
 have h6 : (F6 T).ok := flushD_ok h5
 have h7 : (F7 T).ok := hitD_ok h6 3 1 0 1
 exact ⟨h0, h3, h4, h5, h6, h7, writeD_ok (q := 3) h7 B7_len (by decide)⟩
theorem fresh_calls (w : World) (hsh : Sh w) : Calls Tryz.prog 16 #[] w fun e w' => ∃ sa sc ca cc, e = .returned (.tuple #[.agg (dval (F3 (tabL MA)) sa sc ca cc), .agg RZ, .bool true]) ∧ DV w' (F3 (tabL MA)) sa sc ca cc ∧ Fr0 w w' := by
 have HSH := jq7 hsh
 clear hsh
 have hzd : ∀ W, (zeroValue 25).run Tryz.prog W = .ok (.agg DZ) W := by intro W;kernel_rfl
 have hzr := zero_r
 have hT := tabL_len MA (by decide)
 obtain ⟨o0, o3, -⟩ := f_ok (tabL MA) hT
 have HNE : Jq7 (∀ W, Calls Tryz.prog 28 #[.int .i64 60] W fun e w' => ∃ sa sc ca cc, e = .returned (.tuple #[.agg (dval F0 sa sc ca cc), .int .i64 0]) ∧ DV w' F0 sa sc ca cc ∧ Fr0 W w') := jq7 (fun W => DiskNew.new_calls 60 W)
 have HFO : Jq7 (∀ p sa sc ca cc W, Fr0 w W → DAt W p F0 sa sc ca cc → Calls Tryz.prog 29 #[.pointer (some ⟨p, 0, none⟩)] W fun e w' => e = .returned (.tuple #[.agg RZ, .int .i64 0]) ∧ DIn w' p (F3 (tabL MA)) ∧ Fr (fun i => i = p) W w') := jq7 (fun p sa sc ca cc W f h => RmFormat.format_calls p F0 sa sc ca cc 20 W o0 h (HSH.o.keep0 f) (by rw [f_c0];omega) f_h (by decide) (by decide) (by rw [f_s0];decide) f_w0 (f_w1 _) (f_f2 _) o3)
 have HID : Jq7 (∀ d a b c e, (Tryz.prog.info? 25).map (·.size) = some (dval d a b c e).size) := jq7 (fun _ _ _ _ _ => info_d)
 have HDO : Jq7 (∀ d a b c e, (dval d a b c e).all (·.oneCell') = true) := jq7 (fun _ _ _ _ _ => dval_one _ _ _ _ _)
 have HIR : Jq7 ((Tryz.prog.info? 28).map (·.size) = some RZ.size) := jq7 (info_r _ _)
 have HX2 : Jq7 (Bk ((w.alloc (.cells DZ 25)).alloc (.cells RZ 28)) w.heap.size DZ 25) := jq7 (Bk.alloc (Bk.new w _) _)
 have HY2 : Jq7 (Bk ((w.alloc (.cells DZ 25)).alloc (.cells RZ 28)) (w.heap.size + 1) RZ 28) := jq7 (by have := Bk.new (w.alloc (.cells DZ 25)) (.cells RZ 28);rwa [show (w.alloc (.cells DZ 25)).heap.size = w.heap.size + 1 by simp] at this)
 have HF2 : Jq7 (Fr0 w ((w.alloc (.cells DZ 25)).alloc (.cells RZ 28))) := jq7 (Fr.alloc (Fr.alloc (Fr.refl _ _) _) _)
 have HOK3 := jq7 o3
 clear o0 o3 hT
 generalize F3 (tabL MA) = dB at *
 go_enter Tryz.func16, Tryz.ntmps16
 go_wp2_with (first | (go_at_call 28;(with_reducible refine (HNE.o _).mono ?_);rintro e w3 ⟨sa, sc, ca, cc, rfl, hv3, hf3⟩;have HZ3 := jq7 (Bk.new w3 (.cells DZ 25));have hfr : Fr0 w3 ((w3.alloc (.cells DZ 25)).setRow w3.heap.size (dval F0 sa sc ca cc)) := ArrKit.Fr.row (Fr.alloc (Fr.refl _ _) _) _ _ (.inl (Nat.le_refl _));have hfx := hf3.then0 hfr;have HX4 := kq0 hfx HX2;have HY4 := kq0 hfx HY2;have HF4 := fq0 HF2 hfx;have HA4 : Jq7 (DAt ((w3.alloc (.cells DZ 25)).setRow w3.heap.size (dval F0 sa sc ca cc)) w3.heap.size F0 sa sc ca cc) := jq7 ⟨ArrKit.Bk.row HZ3.o _, hv3.keep hfr⟩;have HG3 : Jq7 ((w.heap.size + 1) < w3.heap.size) := jq7 (Bk.lt (Fr.keep hf3 HY2.o (fun h => h)));clear hv3 hf3 hfr hfx) | ((with_reducible show wkq (.store 25 _ _) _);refine wpList_store_row rfl 25 _ _ rfl w3.heap.size (dval F0 sa sc ca cc) rfl rfl 25 DZ HZ3.o (HID.o _ _ _ _ _) rfl (HDO.o _ _ _ _ _) ?_) | (go_at_call 29;(with_reducible refine (HFO.o _ _ _ _ _ _ HF4.o HA4.o).mono ?_);rintro e w5 ⟨rfl, ⟨s5, n5, c5, m5, hv5⟩, hf5⟩;have hg3 := HG3.o;have HZ5 := jq7 (Bk.new w5 (.cells RZ 28));have hfr : Fr0 w5 ((w5.alloc (.cells RZ 28)).setRow w5.heap.size RZ) := ArrKit.Fr.row (Fr.alloc (Fr.refl _ _) _) _ _ (.inl (Nat.le_refl _));have HX6 := jq7 (Fr.keep hfr (Fr.keep hf5 HX4.o (by omega)) (fun h => h));have HY6 := jq7 (Fr.keep hfr (Fr.keep hf5 HY4.o (by omega)) (fun h => h));have HF6 : Jq7 (Fr0 w ((w5.alloc (.cells RZ 28)).setRow w5.heap.size RZ)) := jq7 ((HF4.o.then hf5 (fun i hi e => by omega)).then0 hfr);have HA6 := jq7 (hv5.keep hfr);have HM6 : Jq7 (Bk ((w5.alloc (.cells RZ 28)).setRow w5.heap.size RZ) w5.heap.size RZ 28) := jq7 (ArrKit.Bk.row HZ5.o _);have HG5 : Jq7 (w3.heap.size < w5.heap.size) := jq7 (Bk.lt hv5.blk);clear hv5 hf5 hfr) | ((with_reducible show wkq (.store 28 _ _) _);refine wpList_store_row rfl 28 _ _ rfl w5.heap.size RZ rfl rfl 28 RZ HZ5.o HIR.o rfl (RC_all _ _ _ _) ?_))
 refine wp_region_noPanic ?_
 refine wp_region_held_drew (S := (fun W : World => Bk W w3.heap.size (dval dB s5 n5 c5 m5) 25 ∧ Bk W w5.heap.size RZ 28 ∧ Fr0 w W)) (by kernel_rfl) (⟨Fr.keep (Fr.drew (Fr.refl (fun _ => False) _)) HA6.o.blk (fun h => h), Fr.keep (Fr.drew (Fr.refl (fun _ => False) _)) HM6.o (fun h => h), Fr.drew HF6.o⟩) (fun hL0 => ?_)
 have HX7 : Jq7 (Bk ((w5.alloc (.cells RZ 28)).setRow w5.heap.size RZ).drew w.heap.size DZ 25) := jq7 (Fr.keep (Fr.drew (Fr.refl (fun _ => False) _)) HX6.o (fun h => h))
 have HY7 : Jq7 (Bk ((w5.alloc (.cells RZ 28)).setRow w5.heap.size RZ).drew (w.heap.size + 1) RZ 28) := jq7 (Fr.keep (Fr.drew (Fr.refl (fun _ => False) _)) HY6.o (fun h => h))
 have HD7 : Jq7 (DV ((w5.alloc (.cells RZ 28)).setRow w5.heap.size RZ).drew dB s5 n5 c5 m5) := jq7 (DV.keep HA6.o.v (Fr.drew (Fr.refl (fun _ => False) _)))
 generalize ((w5.alloc (.cells RZ 28)).setRow w5.heap.size RZ).drew = wd at *
 refine tk (i := 0) (v := .agg (dval dB s5 n5 c5 m5)) rfl (yields_row (by kernel_rfl) 25 _ rfl (w3.heap.size) rfl 25 (dval dB s5 n5 c5 m5) (0, 0) _ (fun W h => h.1) Tryz.underlying25 rfl (HID.o _ _ _ _ _)) hL0 ?_
 refine tk (i := 1) (v := .agg RZ) rfl (yields_row (by kernel_rfl) 28 _ rfl (w5.heap.size) rfl 28 RZ (0, 0) _ (fun W h => h.2.1) Tryz.underlying28 rfl HIR.o) hL0 ?_
 simp only [Act.put,zA,zB,zC,zD,zE,zF]
 refine tk0 (i := 2) (v := .int .i64 0) rfl hL0 ?_
 refine tk (i := 3) (v := .bool true) rfl (Or.inl ⟨by kernel_rfl, fun w hSw => by go_simp <;> (first | exact beq_iff_eq.1 (by assumption) | exact beq_eq_false_iff_ne.1 (by assumption) | omega)⟩) hL0 ?_
 simp only [Act.put,zA,zB,zC,zD,zE,zF]
 refine tk0 (i := 4) (v := .bool true) rfl hL0 ?_
 refine tk0 (i := 5) (v := .int .i64 0) rfl hL0 ?_
 simp only [Act.put,zA,zB,zC,zD,zE,zF]
 refine tk (i := 6) (v := .bool true) rfl (Or.inl ⟨by kernel_rfl, fun w hSw => by go_simp <;> (first | exact beq_iff_eq.1 (by assumption) | exact beq_eq_false_iff_ne.1 (by assumption) | omega)⟩) hL0 ?_
 refine tk0 (i := 7) (v := .bool true) rfl hL0 ?_
 simp only [Act.put,zA,zB,zC,zD,zE,zF]
 change wpAnyH _ _ _ _ _ 3 #[true, true, true, true, true, true, true, true, false, false, false] _ _
 refine rd1 8 rfl fun K hK => ?_
 simp only [zA, zB, zC]
 have hg3 := HG3.o
 have hg5 := HG5.o
 refine wp_store_row 25 _ _ rfl w.heap.size (dval dB s5 n5 c5 m5) rfl rfl 25 DZ HX7.o (HID.o _ _ _ _ _) rfl (HDO.o _ _ _ _ _) ?_
 have HX8 : Jq7 (Bk (wd.setRow w.heap.size (dval dB s5 n5 c5 m5)) w.heap.size (dval dB s5 n5 c5 m5) 25) := jq7 (ArrKit.Bk.row HX7.o _)
 have HY8 : Jq7 (Bk (wd.setRow w.heap.size (dval dB s5 n5 c5 m5)) (w.heap.size + 1) RZ 28) := jq7 (ArrKit.Bk.rowOther HY7.o _ (by omega))
 have HD8 : Jq7 (DV (wd.setRow w.heap.size (dval dB s5 n5 c5 m5)) dB s5 n5 c5 m5) := jq7 (DV.past HD7.o HOK3.o (Fr.row1 _ _ _) HX7.o DiskTwins.DZ_no)
 refine hK.out _ _ (⟨ArrKit.Bk.rowOther (hL0).1 _ (by omega), ArrKit.Bk.rowOther (hL0).2.1 _ (by omega), ArrKit.Fr.row (hL0).2.2 _ _ (.inl (by omega))⟩) (fun hL1 => ?_)
 clear hK K hL0
 generalize (wd.setRow w.heap.size (dval dB s5 n5 c5 m5)) = wA at *
 change wpAnyH _ _ _ _ _ 2 #[true, true, true, true, true, true, true, true, true, false, false] _ _
 refine rd1 9 rfl fun K hK => ?_
 simp only [zA, zB, zC]
 refine wp_store_row 28 _ _ rfl (w.heap.size + 1) RZ rfl rfl 28 RZ HY8.o HIR.o rfl (RC_all _ _ _ _) ?_
 have HX9 : Jq7 (Bk (wA.setRow (w.heap.size + 1) RZ) w.heap.size (dval dB s5 n5 c5 m5) 25) := jq7 (ArrKit.Bk.rowOther HX8.o _ (by omega))
 have HY9 : Jq7 (Bk (wA.setRow (w.heap.size + 1) RZ) (w.heap.size + 1) RZ 28) := jq7 (ArrKit.Bk.row HY8.o _)
 have HD9 : Jq7 (DV (wA.setRow (w.heap.size + 1) RZ) dB s5 n5 c5 m5) := jq7 (DV_past HD8.o HOK3.o (Fr.row1 _ _ _) HY8.o (rc_no 0 none 0 0))
 refine hK.out _ _ (⟨ArrKit.Bk.rowOther (hL1).1 _ (by omega), ArrKit.Bk.rowOther (hL1).2.1 _ (by omega), ArrKit.Fr.row (hL1).2.2 _ _ (.inl (by omega))⟩) (fun hL2 => ?_)
 clear hK K hL1
 generalize (wA.setRow (w.heap.size + 1) RZ) = wB at *
 refine tk0 (i := 10) (v := .bool true) rfl hL2 ?_
 simp only [Act.put,zA,zB,zC,zD,zE,zF]
 change wpAnyH _ _ _ _ _ 0 #[true, true, true, true, true, true, true, true, true, true, true] _ _
 refine wpAnyH_done (by kernel_rfl) ?_ _
 refine NoPanic.normal ?_
 have HEND := jq7 hL2
 clear hL2
 go_wp2
 refine fin_cct w.heap.size (w.heap.size + 1) 25 28 (dval dB s5 n5 c5 m5) RZ (.bool true) (by rfl) (by rfl) (by rfl) (by rfl) (by rfl) Tryz.underlying25 (by rfl) (HID.o _ _ _ _ _) Tryz.underlying28 (by rfl) HIR.o HX9.o HY9.o ?_
 exact ⟨_, _, _, _, rfl, HD9.o, HEND.o.2.2⟩

end Go.Proofs.YtmkmpfnadcmcoaaGreatDoor.DitFresh
namespace Go.Proofs.YtmkmpfnadcmcoaaGreatDoor.DitGetOne
open Go Go.RowKit K EqKit ArrKit HeldKit GKit GRow DiskKit RmKit MapKit ShaStep RmRight RmRRight RmTab RmPut RmAsk RmSame DiskRRead RmRead RmReads DiskAct RmSpare RmKeep RmAliveP RmWrX RmWrite RmPair RowG PtrKit DitKit DitAsk DitHome DitGet
theorem get_one (p r : Nat) (d : Dk) (m : Rm) (a b : Int) (s : List UInt8) (w : World) (hok : d.ok) (hm : m.ok) (hps : PS w p r d m) (hrp : r ≠ p) (hsh : Sh w) (hs : s.length = 32) (ha : (Lit.int .i64 a).wf = true) (hb : (Lit.int .i64 b).wf = true) (hC : d.C.length ≤ 900) (hh : homeB d m a b s = true) (hi : PtrAsk.isH a b s = false) (hd : d.down = false) (hga : (rdG d m a b s a).2 = false) (hb1 : b ≠ -1) (hgb : (rdG d m a b s b).2 = true) (hz0 : (healX d m a (rdG d m a b s b).1).2.1 = 0) : Calls Tryz.prog 9 #[.pointer (some ⟨p, 0, none⟩), .pointer (some ⟨r, 0, none⟩), .agg (PC a b s).toArray] w fun e w' => e = .returned (.tuple #[.agg ((getX d m a b s).1.1.map B).toArray, .int .i64 (getX d m a b s).1.2.1, .int .i64 (getX d m a b s).1.2.2]) ∧ PS w' p r (getX d m a b s).2.1 (getX d m a b s).2.2 ∧ Fr (fun i => i = p ∨ i = r) w w' := by
 have HHO : Jq7 (∀ W, Fr0 w W → Calls Tryz.prog 20 #[.pointer (some ⟨p, 0, none⟩), .pointer (some ⟨r, 0, none⟩), .agg (PC a b s).toArray] W fun e w' => e = .returned (.bool (homeB d m a b s)) ∧ Fr0 W w') := jq7 (fun W f => home_calls p r d m a b s W hok hm (hps.keep0 f) hs ha hb)
 have HIH : Jq7 (∀ W, Calls Tryz.prog 21 #[.agg (PC a b s).toArray] W fun e w' => e = .returned (.bool (PtrAsk.isH a b s)) ∧ Fr0 W w') := jq7 (fun W => PtrAsk.ish_calls a b s W hs ha hb)
 have HC3 : Jq7 (∀ W, Fr0 w W → W.cell? ⟨p, 3, none⟩ = some (.bool d.down)) := jq7 (fun W f => by
  obtain ⟨⟨sa, sc, ca, cc, hv⟩, -⟩ := hps.keep0 f
  exact Bk.cell hv.blk 3)
 have HCO : Jq7 (∀ W, a ≠ -1 → Calls Tryz.prog 22 #[.agg (PC a b s).toArray] W fun e w' => ∃ zb k, e = .returned (.slice (some ⟨zb, 0, none⟩) (copL a b).length k) ∧ (copL a b).length ≤ k ∧ (∀ W', Fr0 w' W' → ∀ j (hj : j < (copL a b).length), W'.cell? ⟨zb, j, none⟩ = some (.int .i64 (copL a b)[j])) ∧ Fr0 W w') := jq7 (fun W h => (copies_calls a b s W h).mono (by
  rintro e w' ⟨v, rfl, hrow, hf⟩
  obtain ⟨zb, k, hv, hle, hc⟩ := row_at hrow (by unfold copL;split <;> simp)
  exact ⟨zb, k, by rw [hv], hle, hc, hf⟩))
 have HRD : Jq7 (∀ q W, (Lit.int .i64 q).wf = true → Fr0 w W → Calls Tryz.prog 23 #[.pointer (some ⟨p, 0, none⟩), .pointer (some ⟨r, 0, none⟩), .agg (PC a b s).toArray, .int .i64 q] W fun e w' => e = .returned (.tuple #[.agg ((rdG d m a b s q).1.map B).toArray, .bool (rdG d m a b s q).2]) ∧ Fr0 W w') := jq7 (fun q W hq f => DitRead.read_calls p r d m a b q s W hok hm (hps.keep0 f) (hsh.keep0 f) hs ha hb hq)
 have hlb := rdG_len hok m a b s b
 have hla := rdG_len hok m a b s a
 have HHE : Jq7 (∀ W, Fr0 w W → Calls Tryz.prog 24 #[.pointer (some ⟨p, 0, none⟩), .pointer (some ⟨r, 0, none⟩), .int .i64 a, .agg ((rdG d m a b s b).1.map B).toArray] W fun e w' => e = .returned (.tuple #[.int .i64 (healX d m a (rdG d m a b s b).1).1, .int .i64 (healX d m a (rdG d m a b s b).1).2.1]) ∧ PS w' p r (healX d m a (rdG d m a b s b).1).2.2.1 (healX d m a (rdG d m a b s b).1).2.2.2 ∧ Fr (fun i => i = p ∨ i = r) W w') := jq7 (fun W f => heal_calls p r d m a _ W hok hm (hps.keep0 f) hrp (hsh.keep0 f) ha hlb hC)
 have HWA := jq7 ha
 have HWB := jq7 hb
 have HPS := jq7 hps
 have HPW : Jq7 (p < w.heap.size ∧ r < w.heap.size) := jq7 (by
  obtain ⟨⟨sa, sc, ca, cc, hv⟩, ra, rc, hb1, -⟩ := hps
  exact ⟨Bk.lt hv.blk, Bk.lt hb1⟩)
 have HIP := jq7 (info_ptr a b hs)
 have HIA := jq7 (info_l hla)
 have HSA := jq7 (size_l hla)
 have HOA := jq7 (one_l (rdG d m a b s a).1)
 have HIB := jq7 (info_l hlb)
 have HSB := jq7 (size_l hlb)
 have HOB := jq7 (one_l (rdG d m a b s b).1)
 have P0 : Jq7 ((PC a b s).toArray[0]? = some (.int .i64 a)) := jq7 rfl
 have HZI : Jq7 ((Tryz.prog.info? 36).map (·.size) = some ZB.size) := jq7 (by have := info_l (show Z128.length = 128 by simp [Z128]);rwa [Z128_cells] at this)
 have HZO : Jq7 (ZB.all (·.oneCell') = true) := jq7 (by have := one_l Z128;rwa [Z128_cells] at this)
 have hcl : copL a b = if b = -1 then [a] else [a, b] := rfl
 have hhm : homeB d m a b s = true → PtrAsk.isH a b s = false → a ≠ -1 := fun h1 h2 => by
  unfold homeB at h1
  simp only [Bool.and_eq_true] at h1
  have h3 := h1.2.2.1
  unfold PtrAsk.rightB at h3
  rw [h2, Bool.false_or, Bool.and_eq_true] at h3
  have h4 := h3.1
  unfold PtrAsk.secB at h4
  have := of_decide_eq_true h4
  omega
 have hzb := zero_bl
 unfold getX
 clear hok hm hps hrp hsh hs ha hb hC hlb hla
 generalize (PC a b s).toArray = X at *
 have HRA := jq7 (fun W => HRD.o a W HWA.o)
 have HRB := jq7 (fun W => HRD.o b W HWB.o)
 obtain ⟨LA, hLA⟩ : ∃ z, ((rdG d m a b s a).1.map B).toArray = z := ⟨_, rfl⟩
 obtain ⟨LBB, hLB⟩ : ∃ z, ((rdG d m a b s b).1.map B).toArray = z := ⟨_, rfl⟩
 rw [hLA] at HRA HIA HSA HOA
 rw [hLB] at HRB HHE HIB HSB HOB
 have HLA := jq7 hLA
 have HLB := jq7 hLB
 clear hLA hLB HRD
 have HX1 : Jq7 (Bk ((w.alloc (.cells X 31)).alloc (.cells ZB 36)) w.heap.size X 31) := jq7 (Bk.alloc (Bk.new w _) _)
 have HZ1 : Jq7 (Bk ((w.alloc (.cells X 31)).alloc (.cells ZB 36)) (w.heap.size + 1) ZB 36) := jq7 (by have := Bk.new (w.alloc (.cells X 31)) (.cells ZB 36);rwa [show (w.alloc (.cells X 31)).heap.size = w.heap.size + 1 by simp] at this)
 have HF1 : Jq7 (Fr0 w ((w.alloc (.cells X 31)).alloc (.cells ZB 36))) := jq7 (Fr.alloc (Fr.alloc (Fr.refl _ _) _) _)
 rw [hh, hi, hd]
 have hane := hhm hh hi
 rw [if_neg (show ¬ true = false by decide), if_neg (show ¬ false = true by decide), if_neg (show ¬ false = true by decide)]
 rw [hh] at HHO
 rw [hi] at HIH
 rw [hd] at HC3
 clear hh hi hd hhm
 have HL0 : Jq7 (0 < (copL a b).length) := jq7 (by rw [hcl];split <;> simp)
 rw [hga, hgb, if_neg (show ¬ false = true by decide), if_neg hb1, if_neg (show ¬ true = false by decide)]
 rw [hga] at HRA
 rw [hgb] at HRB
 clear hga hgb
 obtain ⟨⟨hn, he, D1, M1⟩, hH⟩ : ∃ z, healX d m a (rdG d m a b s b).1 = z := ⟨_, rfl⟩
 rw [hH] at HHE hz0
 rw [hH]
 clear hH
 have he0 : he = 0 := hz0
 clear hz0
 rw [if_neg (by show ¬ he ≠ 0;omega)]
 subst he0
 have hl : copL a b = [a, b] := by rw [hcl];rw [if_neg hb1]
 rw [hl] at HCO HL0
 clear hcl hl hb1
 go_enter Tryz.func9, Tryz.ntmps9
 go_wp2_with (first | (go_at_call 20;(with_reducible refine (HHO.o _ HF1.o).mono ?_);rintro e w2 ⟨rfl, hf2⟩;have HX2 := kq0 hf2 HX1;have HZ2 := kq0 hf2 HZ1;have HF2 := fq0 HF1 hf2;clear hf2) | ((with_reducible show wkq (.load 31 _) _);refine lr 31 w.heap.size X HX1.o HIP.o ?_) | ((with_reducible show wkq (.load 31 _) _);refine lr 31 w.heap.size X HX2.o HIP.o ?_) | ((with_reducible show wkq (.load 31 _) _);refine lr 31 w.heap.size X HX3.o HIP.o ?_) | (go_at_call 21;(with_reducible refine (HIH.o _).mono ?_);rintro e w3 ⟨rfl, hf3⟩;have HX3 := kq0 hf3 HX2;have HZ3 := kq0 hf3 HZ2;have HF3 := fq0 HF2 hf3;have c33 := HC3.o _ HF3.o;clear hf3) | (go_at_call 22;(with_reducible refine (HCO.o _ hane).mono ?_);rintro e w4 ⟨zb, zk, rfl, hzk, hzc, hf4⟩;have HX4 := kq0 hf4 HX3;have HZ4 := kq0 hf4 HZ3;have HF4 := fq0 HF3 hf4;have HZC := jq7 hzc;have z40 := HZC.o w4 (Fr.refl _ _) 0 HL0.o;clear hf4 hzc))
 refine wp_loop_rounds 3 ?_
 rw [rounds_succ]
 go_wp2_with (first | ((with_reducible show wkq (.load 31 _) _);refine lr 31 w.heap.size X HX4.o HIP.o ?_) | (go_at_call 23;(with_reducible refine (HRA.o _ HF4.o).mono ?_);rintro e w5 ⟨rfl, hf5⟩;have HZB5 := jq7 (Bk.new w5 (.cells ZB 36));have hfx := Fr.then0 hf5 (show Fr0 w5 ((w5.alloc (.cells ZB 36)).setRow w5.heap.size LA) from ArrKit.Fr.row (Fr.alloc (Fr.refl _ _) _) _ _ (.inl (Nat.le_refl _)));have HX6 := kq0 hfx HX4;have HZ6 := kq0 hfx HZ4;have HF6 := fq0 HF4 hfx;have HY6 : Jq7 (Bk ((w5.alloc (.cells ZB 36)).setRow w5.heap.size LA) w5.heap.size LA 36) := jq7 (ArrKit.Bk.row HZB5.o _);have z61 := fun h => HZC.o ((w5.alloc (.cells ZB 36)).setRow w5.heap.size LA) hfx 1 h;clear hf5 hfx) | ((with_reducible show wkq (.store 36 _ _) _);refine wpList_store_row rfl 36 _ _ rfl w5.heap.size LA rfl rfl 36 ZB HZB5.o HIA.o HSA.o HOA.o ?_))
 have c61 := z61 (by simp)
 rw [rounds_succ]
 go_wp2_with (first | ((with_reducible show wkq (.load 31 _) _);refine lr 31 w.heap.size X HX6.o HIP.o ?_) | (go_at_call 23;(with_reducible refine (HRB.o _ HF6.o).mono ?_);rintro e w7 ⟨rfl, hf7⟩;have HZB7 := jq7 (Bk.new w7 (.cells ZB 36));have hfx := Fr.then0 hf7 (show Fr0 w7 ((w7.alloc (.cells ZB 36)).setRow w7.heap.size LBB) from ArrKit.Fr.row (Fr.alloc (Fr.refl _ _) _) _ _ (.inl (Nat.le_refl _)));have HX8 := kq0 hfx HX6;have HZ8 := kq0 hfx HZ6;have HF8 := fq0 HF6 hfx;have HY8 : Jq7 (Bk ((w7.alloc (.cells ZB 36)).setRow w7.heap.size LBB) w7.heap.size LBB 36) := jq7 (ArrKit.Bk.row HZB7.o _);have q80 : ((w7.alloc (.cells ZB 36)).setRow w7.heap.size LBB).cell? ⟨w.heap.size, 0, none⟩ = some (.int .i64 a) := (Bk.cell HX8.o 0).trans P0.o;have HG7 : Jq7 ((w.heap.size + 1) < w7.heap.size) := jq7 (Bk.lt (Fr.keep hf7 HZ6.o (fun h => h)));clear hf7 hfx) | ((with_reducible show wkq (.store 36 _ _) _);refine wpList_store_row rfl 36 _ _ rfl w7.heap.size LBB rfl rfl 36 ZB HZB7.o HIB.o HSB.o HOB.o ?_) | (go_at_call 24;(with_reducible refine (HHE.o _ HF8.o).mono ?_);rintro e w9 ⟨rfl, hp9, hf9⟩;have hpw := HPW.o;have HZ9 := jq7 (Fr.keep hf9 HZ8.o (by omega));have hgt8 := Bk.lt HZ8.o;have HY9 := jq7 (Fr.keep hf9 HY8.o (by have h1 : (w.heap.size + 1) < w7.heap.size := HG7.o;omega));have HP9 := jq7 hp9;have HF9 := jq7 ((HF8.o.weaken (fun _ _ h => h.elim)).trans hf9);clear hp9 hf9) | ((with_reducible show wkq (.load 36 _) _);refine lr 36 w7.heap.size LBB HY8.o HIB.o ?_) | ((with_reducible show wkq (.load 36 _) _);refine lr 36 w7.heap.size LBB HY9.o HIB.o ?_) | ((with_reducible show wkq (.store 36 _ _) _);refine wpList_store_row rfl 36 _ _ rfl (w.heap.size + 1) LBB rfl rfl 36 ZB HZ9.o HIB.o HSB.o HOB.o ?_))
 refine fin_ctt (w.heap.size + 1) 36 LBB (.int .i64 hn) (.int .i64 0) (by rfl) (by rfl) (by rfl) (by rfl) (by rfl) Tryz.underlying36 (by rfl) HIB.o (ArrKit.Bk.row HZ9.o _) ?_
 exact ⟨(by rw [← HLB.o]), PS.pastB (l := Z128) HP9.o (by rw [Z128_cells];exact HZ9.o) (Fr.row1 _ _ _) (by have := HPW.o;omega) (by have := HPW.o;omega), (ArrKit.Fr.row HF9.o _ _ (.inl (by omega)))⟩

end Go.Proofs.YtmkmpfnadcmcoaaGreatDoor.DitGetOne
namespace Go.Proofs.YtmkmpfnadcmcoaaGreatDoor.DitAlive
open Go Go.RowKit K EqKit ArrKit HeldKit GKit GRow DiskKit RmKit MapKit ShaStep ShaRef ShaPad ShaSum ShaRSum RmRight RmRRight RmTab RmPut RmAsk RmSame DiskRRead RmRead RmReads DiskAct RmSpare RmKeep RmFirst RmFormat DiskNew DiskHit DiskLay RmAliveP RmWrX RmPair PtrKit DitKit DitHome DitGet DitGetOne DitPut DitAliveP DitFresh
theorem f_hit1 (T : List UInt8) : ({ F6 T with S := (F6 T).S.set (3 : Int).toNat (hitS (secAt (F6 T) 3) 1 0 1) } : Dk) = F7 T := by kernel_rfl
theorem f_g3 (T : List UInt8) : rdG (F7 T) MA 3 25 (sumOf B7) 3 = (B6, false) := by
 unfold rdG PtrFitB.fitB
 rw [f_rd3, f_hole, if_neg (by decide), decide_eq_false sums_ne, Bool.and_false]
theorem f_g25 (T : List UInt8) : rdG (F7 T) MA 3 25 (sumOf B7) 25 = (B7, true) := by
 unfold rdG PtrFitB.fitB
 rw [f_rd25, f_hole, if_neg (by decide), decide_eq_true rfl];rfl
theorem f_h7 (T : List UInt8) : (healX (F7 T) MA 3 B7).2.1 = 0 := by
 unfold healX
 rw [f_wr7];rfl
theorem built_b7 : Tryz.prog.built 36 [(0, .int .u8 7)] = some (B7.map B).toArray := by kernel_rfl
theorem PS.now {w w1 : World} {p r : Nat} {d d' : Dk} {m : Rm} (h : PS w p r d m) (hn : Now w w1 p d') (hrp : r ≠ p) : PS w1 p r d' m := by
 obtain ⟨⟨sa, sc, ca, cc, h1⟩, a, c, h2, h3⟩ := h
 exact ⟨hn.at_, a, c, hn.fr.keep h2 hrp, RV.past h3 hn.fr h1.blk⟩
theorem alive_calls (w : World) (hsh : Sh w) : Calls Tryz.prog 5 #[] w fun e w' => e = .returned (.bool true) ∧ Fr0 w w' := by
 have HSH := jq7 hsh
 have hT := tabL_len MA (by decide)
 obtain ⟨o0, o3, o4, o5, o6, o7, o8⟩ := f_ok (tabL MA) hT
 have hMA : MA.ok := ⟨by decide, fun x hx => by cases hx⟩
 have HFR : Jq7 (∀ W, Sh W → Calls Tryz.prog 16 #[] W fun e w' => ∃ sa sc ca cc, e = .returned (.tuple #[.agg (dval (F3 (tabL MA)) sa sc ca cc), .agg RZ, .bool true]) ∧ DV w' (F3 (tabL MA)) sa sc ca cc ∧ Fr0 W w') := jq7 (fun W h => fresh_calls W h)
 have HPU : Jq7 (∀ p r W, r ≠ p → Sh W → PS W p r (F3 (tabL MA)) MA → Calls Tryz.prog 17 #[.pointer (some ⟨p, 0, none⟩), .pointer (some ⟨r, 0, none⟩), .agg (B7.map B).toArray, .int .i64 3, .int .i64 25] W fun e w' => e = .returned (.tuple #[.agg (PC 3 25 (sumOf B7)).toArray, .int .i64 0]) ∧ PS w' p r (F5 (tabL MA)) MA ∧ Fr (fun i => i = p ∨ i = r) W w') := jq7 (fun p r W hrp hs h => put_calls p r (F3 (tabL MA)) (F4 (tabL MA)) (F5 (tabL MA)) MA B7 3 25 W o3 hMA rfl h hrp hs B7_len (by decide) (by decide) (by rw [f_c3];decide) (by kernel_rfl) (f_home _ _) (by decide) (f_p1 _) (.inr ⟨by decide, f_p2 _⟩))
 have HFL : Jq7 (∀ p r W, r ≠ p → PS W p r (F5 (tabL MA)) MA → Calls Tryz.prog 18 #[.pointer (some ⟨p, 0, none⟩)] W fun e w' => e = .returned (.int .i64 0) ∧ PS w' p r (F6 (tabL MA)) MA ∧ Fr (fun i => i = p) W w') := jq7 (fun p r W hrp h => by
  obtain ⟨⟨sa, sc, ca, cc, h1⟩, -⟩ := id h
  have := DiskFlush.flush_calls p (F5 (tabL MA)) sa sc ca cc W o5 h1
  rw [f_f5] at this
  exact this.mono (fun e w' hh => ⟨hh.1, PS.now h hh.2 hrp, hh.2.fr⟩))
 have HHI : Jq7 (∀ p r W, r ≠ p → PS W p r (F6 (tabL MA)) MA → Calls Tryz.prog 19 #[.pointer (some ⟨p, 0, none⟩), .int .i64 3, .int .i64 1, .int .i64 0, .int .u8 1] W fun e w' => e = .returned (.int .i64 0) ∧ PS w' p r (F7 (tabL MA)) MA ∧ Fr (fun i => i = p) W w') := jq7 (fun p r W hrp h => by
  obtain ⟨⟨sa, sc, ca, cc, h1⟩, -⟩ := id h
  have := DiskHit.hit_k1 p 3 1 0 1 (F6 (tabL MA)) sa sc ca cc W o6 h1 (by kernel_rfl) rfl (by decide) (by decide)
  rw [f_hit1] at this
  exact this.mono (fun e w' hh => ⟨hh.1, PS.now h hh.2 hrp, hh.2.fr⟩))
 have HGE : Jq7 (∀ p r W, r ≠ p → Sh W → PS W p r (F7 (tabL MA)) MA → Calls Tryz.prog 9 #[.pointer (some ⟨p, 0, none⟩), .pointer (some ⟨r, 0, none⟩), .agg (PC 3 25 (sumOf B7)).toArray] W fun e w' => e = .returned (.tuple #[.agg (B7.map B).toArray, .int .i64 1, .int .i64 0]) ∧ PS w' p r (F8 (tabL MA)) MA ∧ Fr (fun i => i = p ∨ i = r) W w') := jq7 (fun p r W hrp hs h => by
  have := get_one p r (F7 (tabL MA)) MA 3 25 (sumOf B7) W o7 hMA h hrp hs (sumOf_length _) (by decide) (by decide) (by rw [f_c7];decide) (f_home7 _ _) (f_hole _) (f_up _) (by rw [f_g3]) (by decide) (by rw [f_g25]) (by rw [f_g25, f_h7])
  rw [f_get] at this
  exact this)
 have HRV : Jq7 (∀ W, RV W MA none 0) := jq7 (fun W => rv_nil W 0)
 have hsl := sumOf_length B7
 have HIP := jq7 (info_ptr 3 25 hsl)
 have HSP : Jq7 (PtrAsk.ZERO.size = (PC 3 25 (sumOf B7)).toArray.size) := jq7 (by
  have h : (PC 3 25 (sumOf B7)).toArray.size = 34 := by rw [List.size_toArray, PC_length, hsl]
  rw [h];rfl)
 have HOP : Jq7 ((PC 3 25 (sumOf B7)).toArray.all (·.oneCell') = true) := jq7 (by
  rw [List.all_toArray]
  generalize sumOf B7 = s
  simp [PC, Value.oneCell', B_def])
 have HIB := jq7 (info_l B7_len)
 have HSB := jq7 (size_l B7_len)
 have HOB := jq7 (one_l B7)
 have HB7 : Jq7 ((B7.map B).toArray[0]? = some (.int .u8 7)) := jq7 (by kernel_rfl)
 have HBB := jq7 built_b7
 have HID : Jq7 (∀ d a b c e, (Tryz.prog.info? 25).map (·.size) = some (dval d a b c e).size) := jq7 (fun _ _ _ _ _ => info_d)
 have HDO : Jq7 (∀ d a b c e, (dval d a b c e).all (·.oneCell') = true) := jq7 (fun _ _ _ _ _ => dval_one _ _ _ _ _)
 have HIR : Jq7 ((Tryz.prog.info? 28).map (·.size) = some RZ.size) := jq7 (info_r _ _)
 have hzd : ∀ W, (zeroValue 25).run Tryz.prog W = .ok (.agg DZ) W := by intro W;kernel_rfl
 have hzp : ∀ W, (zeroValue 31).run Tryz.prog W = .ok (.agg PtrAsk.ZERO) W := by intro W;kernel_rfl
 have hzr := zero_r
 have hzb := zero_bl
 clear hsh hT o0 o3 o4 o5 o6 o7 o8 hMA hsl
 generalize (PC 3 25 (sumOf B7)).toArray = PX at *
 generalize (B7.map B).toArray = X7 at *
 generalize F3 (tabL MA) = dA at *
 generalize F5 (tabL MA) = dB at *
 generalize F6 (tabL MA) = dC at *
 generalize F7 (tabL MA) = dD at *
 generalize F8 (tabL MA) = dE at *
 go_enter Tryz.func5, Tryz.ntmps5
 go_wp2_with (first | (go_at_call 16;(with_reducible refine (HFR.o _ HSH.o).mono ?_);rintro e w1 ⟨sa, sc, ca, cc, rfl, hv1, hf1⟩;have hs1 : (w1.alloc (.cells DZ 25)).heap.size = w1.heap.size + 1 := (by simp);have HA2 : Jq7 (Bk ((w1.alloc (.cells DZ 25)).alloc (.cells RZ 28)) w1.heap.size DZ 25) := jq7 (Bk.alloc (Bk.new w1 _) _);have HB2 : Jq7 (Bk ((w1.alloc (.cells DZ 25)).alloc (.cells RZ 28)) (w1.heap.size + 1) RZ 28) := jq7 (by have h := Bk.new (w1.alloc (.cells DZ 25)) (.cells RZ 28);rwa [hs1] at h);have HB3 : Jq7 (Bk (((w1.alloc (.cells DZ 25)).alloc (.cells RZ 28)).setRow w1.heap.size (dval dA sa sc ca cc)) (w1.heap.size + 1) RZ 28) := jq7 (ArrKit.Bk.rowOther HB2.o _ (by omega));have hfr : Fr0 w1 ((((w1.alloc (.cells DZ 25)).alloc (.cells RZ 28)).setRow w1.heap.size (dval dA sa sc ca cc)).setRow (w1.heap.size + 1) RZ) := ArrKit.Fr.row (ArrKit.Fr.row (Fr.alloc (Fr.alloc (Fr.refl _ _) _) _) _ _ (.inl (Nat.le_refl _))) _ _ (.inl (Nat.le_succ _));have HP4 : Jq7 (PS ((((w1.alloc (.cells DZ 25)).alloc (.cells RZ 28)).setRow w1.heap.size (dval dA sa sc ca cc)).setRow (w1.heap.size + 1) RZ) w1.heap.size (w1.heap.size + 1) dA MA) := jq7 (PS.of (a := none) (c := 0) ⟨ArrKit.Bk.rowOther (ArrKit.Bk.row HA2.o _) _ (by omega), hv1.keep hfr⟩ (ArrKit.Bk.row HB3.o _) (HRV.o _));have HF4 : Jq7 (Fr0 w ((((w1.alloc (.cells DZ 25)).alloc (.cells RZ 28)).setRow w1.heap.size (dval dA sa sc ca cc)).setRow (w1.heap.size + 1) RZ)) := jq7 (hf1.then0 hfr);have HG0 : Jq7 (w.heap.size ≤ w1.heap.size ∧ (w1.heap.size + 1) ≠ w1.heap.size) := jq7 ⟨hf1.size, by omega⟩;clear hv1 hf1 hfr hs1) | ((with_reducible show wkq (.store 25 _ _) _);refine wpList_store_row rfl 25 _ _ rfl w1.heap.size (dval dA sa sc ca cc) rfl rfl 25 DZ HA2.o (HID.o _ _ _ _ _) rfl (HDO.o _ _ _ _ _) ?_) | ((with_reducible show wkq (.store 28 _ _) _);refine wpList_store_row rfl 28 _ _ rfl (w1.heap.size + 1) RZ rfl rfl 28 RZ HB3.o HIR.o rfl (RC_all _ _ _ _) ?_) | ((with_reducible show wkq (.build 36 _) _);refine build_ev rfl 36 _ rfl [(0, .int .u8 7)] (by simp [Act.eval, Act.put]) X7 HBB.o ?_) | (go_at_call 17;(with_reducible refine (HPU.o _ _ _ HG0.o.2 (HSH.o.keep0 HF4.o) HP4.o).mono ?_);rintro e w5 ⟨rfl, hp, hf⟩;have HZ5 := jq7 (Bk.new w5 (.cells PtrAsk.ZERO 31));have hfr : Fr0 w5 ((w5.alloc (.cells PtrAsk.ZERO 31)).setRow w5.heap.size PX) := ArrKit.Fr.row (Fr.alloc (Fr.refl _ _) _) _ _ (.inl (Nat.le_refl _));have HP6 := jq7 (hp.keep0 hfr);have HF6 : Jq7 (Fr0 w ((w5.alloc (.cells PtrAsk.ZERO 31)).setRow w5.heap.size PX)) := jq7 ((HF4.o.then hf (fun i hi e => by have h := HG0.o;omega)).then0 hfr);have HQ6 : Jq7 (Bk ((w5.alloc (.cells PtrAsk.ZERO 31)).setRow w5.heap.size PX) w5.heap.size PX 31) := jq7 (ArrKit.Bk.row HZ5.o _);have HG5 : Jq7 ((w1.heap.size + 1) < w5.heap.size) := jq7 (by obtain ⟨-, qa, qc, hq, -⟩ := hp;exact Bk.lt hq);clear hp hf hfr) | ((with_reducible show wkq (.store 31 _ _) _);refine wpList_store_row rfl 31 _ _ rfl w5.heap.size PX rfl rfl 31 PtrAsk.ZERO HZ5.o HIP.o HSP.o HOP.o ?_) | (go_at_call 18;(with_reducible refine (HFL.o _ _ _ HG0.o.2 HP6.o).mono ?_);rintro e w7 ⟨rfl, hp, hf⟩;have hg5 := HG5.o;have HP7 := jq7 hp;have HF7 : Jq7 (Fr0 w w7) := jq7 (HF6.o.then hf (fun i hi e => by have h := HG0.o;omega));have HQ7 := jq7 (Fr.keep hf HQ6.o (by omega));clear hp hf) | (go_at_call 19;(with_reducible refine (HHI.o _ _ _ HG0.o.2 HP7.o).mono ?_);rintro e w8 ⟨rfl, hp, hf⟩;have HP8 := jq7 hp;have HF8 : Jq7 (Fr0 w w8) := jq7 (HF7.o.then hf (fun i hi e => by have h := HG0.o;omega));have HQ8 := jq7 (Fr.keep hf HQ7.o (by omega));clear hp hf) | ((with_reducible show wkq (.load 31 _) _);refine lr 31 w5.heap.size PX HQ8.o HIP.o ?_) | (go_at_call 9;(with_reducible refine (HGE.o _ _ _ HG0.o.2 (HSH.o.keep0 HF8.o) HP8.o).mono ?_);rintro e w9 ⟨rfl, hp, hf⟩;have HF9 : Jq7 (Fr0 w w9) := jq7 (HF8.o.then hf (fun i hi e => by have h := HG0.o;omega));have HZ9 := jq7 (Bk.new w9 (.cells ZB 36));have HFB : Jq7 (Fr0 w ((w9.alloc (.cells ZB 36)).setRow w9.heap.size X7)) := jq7 (HF9.o.then0 (ArrKit.Fr.row (Fr.alloc (Fr.refl _ _) _) _ _ (.inl (Nat.le_refl _))));have e9 : (((w9.alloc (.cells ZB 36)).setRow w9.heap.size X7)).cell? ⟨w9.heap.size, 0, none⟩ = some (.int .u8 7) := (Bk.cell (ArrKit.Bk.row HZ9.o X7) 0).trans HB7.o;clear hp hf) | ((with_reducible show wkq (.store 36 _ _) _);refine wpList_store_row rfl 36 _ _ rfl w9.heap.size X7 rfl rfl 36 ZB HZ9.o HIB.o HSB.o HOB.o ?_))
 go_ret
 exact ⟨rfl, HFB.o⟩

end Go.Proofs.YtmkmpfnadcmcoaaGreatDoor.DitAlive
