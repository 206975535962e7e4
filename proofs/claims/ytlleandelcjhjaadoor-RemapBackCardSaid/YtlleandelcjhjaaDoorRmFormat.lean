/- The first table: the walk of remap.Format, where nothing fails. -/
import Derived.Test.YtlleandelcjhjaaDoorRmFirst
set_option maxRecDepth 100000
set_option linter.unusedVariables false
set_option linter.unusedSimpArgs false
namespace Go.Proofs.YtlleandelcjhjaaDoor.RmFormat
open Go Go.RowKit Go.Proofs.YtlleandelcjhjaaDoor.K Go.Proofs.YtlleandelcjhjaaDoor.EqKit Go.Proofs.YtlleandelcjhjaaDoor.ArrKit Go.Proofs.YtlleandelcjhjaaDoor.HeldKit Go.Proofs.YtlleandelcjhjaaDoor.GKit Go.Proofs.YtlleandelcjhjaaDoor.GRow Go.Proofs.YtlleandelcjhjaaDoor.DiskKit Go.Proofs.YtlleandelcjhjaaDoor.RmKit Go.Proofs.YtlleandelcjhjaaDoor.MapKit Go.Proofs.YtlleandelcjhjaaDoor.RmRight Go.Proofs.YtlleandelcjhjaaDoor.RmRRight Go.Proofs.YtlleandelcjhjaaDoor.RmTab Go.Proofs.YtlleandelcjhjaaDoor.RmPut Go.Proofs.YtlleandelcjhjaaDoor.RmAsk Go.Proofs.YtlleandelcjhjaaDoor.RmSame Go.Proofs.YtlleandelcjhjaaDoor.DiskRRead Go.Proofs.YtlleandelcjhjaaDoor.RmRead Go.Proofs.YtlleandelcjhjaaDoor.RmReads Go.Proofs.YtlleandelcjhjaaDoor.DiskAct Go.Proofs.YtlleandelcjhjaaDoor.RmSpare Go.Proofs.YtlleandelcjhjaaDoor.RmKeep Go.Proofs.YtlleandelcjhjaaDoor.RmFirst

theorem built_rz : Tryd.prog.built 24 [] = some RZ := by kernel_rfl
theorem tabB_nil {s : Int} (h : half s ≠ 0) : tabB (⟨0, []⟩ : Rm) s = true := by
  unfold tabB
  rw [decide_eq_true h]
  rfl
set_option maxHeartbeats 2000000 in
set_option maxRecDepth 100000 in
theorem format_calls (p : Nat) (d : Dk) (sa : Option Addr) (sc : Nat) (ca : Option Addr) (cc : Nat) (N : Nat) (w : World) (hok : d.ok) (hv : DAt w p d sa sc ca cc) (hsh : Sh w) (hC : d.C.length ≤ 1000) (hh : hvI d = (N : Int)) (hN : N ≠ 0) (hN2 : N ≤ 2038) (hS : half (d.S.length : Int) ≠ 0) (h1 : writeE d 0 = 0) (h2 : writeE (writeD d 0 (tabL (⟨0, []⟩ : Rm))) (N : Int) = 0) (h3 : flushE (writeD (writeD d 0 (tabL (⟨0, []⟩ : Rm))) (N : Int) (tabL (⟨0, []⟩ : Rm))) = 0) (h4 : (flushD (writeD (writeD d 0 (tabL (⟨0, []⟩ : Rm))) (N : Int) (tabL (⟨0, []⟩ : Rm)))).ok) :
    Calls Tryd.prog 33 #[.pointer (some ⟨p, 0, none⟩)] w fun e w' => e = .returned (.tuple #[.agg RZ, .int .i64 0]) ∧ DIn w' p (flushD (writeD (writeD d 0 (tabL (⟨0, []⟩ : Rm))) (N : Int) (tabL (⟨0, []⟩ : Rm)))) ∧ Fr (fun i => i = p) w w' := by
  have HV := Lib.hid hv
  have hpw : p < w.heap.size := Bk.lt hv.blk
  have HR1 : Hid (Bk (w.alloc (.cells RZ 24)) w.heap.size RZ 24) := Lib.hid (Bk.new w _)
  have HF1 : Hid (Fr0 w (w.alloc (.cells RZ 24))) := Lib.hid (Fr.alloc (Fr.refl _ _) _)
  have HHV : Hid (∀ W, Fr0 w W → Calls Tryd.prog 57 #[.pointer (some ⟨p, 0, none⟩)] W fun e w' => e = .returned (.int .i64 (N : Int)) ∧ Fr0 W w') := Lib.hid (fun W f => by have := halves_calls p d sa sc ca cc W hok (hv.keep f); rwa [hh] at this)
  have htb := tabB_nil hS
  have htl : (tabL (⟨0, []⟩ : Rm)).length = 128 := tabL_len _ (by decide)
  have HPU : Hid (∀ W, Fr0 w W → Calls Tryd.prog 11 #[.agg RZ, .int .i64 (d.S.length : Int)] W fun e w' => e = .returned (.tuple #[.agg ((tabL (⟨0, []⟩ : Rm)).map B).toArray, .int .i64 0]) ∧ Fr0 W w') := Lib.hid (fun W f => by
    have := RmPut.put_calls (⟨0, []⟩ : Rm) none 0 (d.S.length : Int) W ⟨by decide, fun x hx => by cases hx⟩ (rv_nil W 0) (wf_nat (Nat.le_trans hv.v.sn hv.v.sm)) (hsh.keep0 f)
    unfold tabX tabE at this
    rw [if_pos htb, if_pos htb] at this
    exact this)
  have HQ1 : Hid ((Lit.int .i64 (0 : Int)).wf = true) := Lib.hid (by decide)
  have HQ2 : Hid ((Lit.int .i64 (N : Int)).wf = true) := Lib.hid (wf_nat (by omega))
  have HW1 : Hid (∀ W, DAt W p d sa sc ca cc → Calls Tryd.prog 46 #[.pointer (some ⟨p, 0, none⟩), .int .i64 0, .agg ((tabL (⟨0, []⟩ : Rm)).map B).toArray] W fun e w' => e = .returned (.int .i64 0) ∧ Now W w' p (writeD d 0 (tabL (⟨0, []⟩ : Rm)))) := Lib.hid (fun W h => by have := DiskWrite.write_calls p 0 (tabL (⟨0, []⟩ : Rm)) d sa sc ca cc W hok h htl (by omega) HQ1.out; rwa [h1] at this)
  have HO1 := Lib.hid (writeD_ok hok htl HQ1.out)
  have HC1 := Lib.hid (Nat.le_trans (writeD_C d 0 (tabL (⟨0, []⟩ : Rm))) (Nat.add_le_add_right hC 1))
  have HW2 : Hid (∀ W s n c k, DAt W p (writeD d 0 (tabL (⟨0, []⟩ : Rm))) s n c k → Calls Tryd.prog 46 #[.pointer (some ⟨p, 0, none⟩), .int .i64 (N : Int), .agg ((tabL (⟨0, []⟩ : Rm)).map B).toArray] W fun e w' => e = .returned (.int .i64 0) ∧ Now W w' p (writeD (writeD d 0 (tabL (⟨0, []⟩ : Rm))) (N : Int) (tabL (⟨0, []⟩ : Rm)))) := Lib.hid (fun W s n c k h => by have := DiskWrite.write_calls p (N : Int) (tabL (⟨0, []⟩ : Rm)) _ s n c k W HO1.out h htl (by have := HC1.out; omega) HQ2.out; rwa [h2] at this)
  have HO2 := Lib.hid (writeD_ok HO1.out htl HQ2.out)
  have HFL : Hid (∀ W s n c k, DAt W p (writeD (writeD d 0 (tabL (⟨0, []⟩ : Rm))) (N : Int) (tabL (⟨0, []⟩ : Rm))) s n c k → Calls Tryd.prog 49 #[.pointer (some ⟨p, 0, none⟩)] W fun e w' => e = .returned (.int .i64 0) ∧ Now W w' p (flushD (writeD (writeD d 0 (tabL (⟨0, []⟩ : Rm))) (N : Int) (tabL (⟨0, []⟩ : Rm))))) := Lib.hid (fun W s n c k h => by have := DiskFlush.flush_calls p _ s n c k W HO2.out h; rwa [h3] at this)
  have HOE := Lib.hid h4
  have hix0 : ∀ W, (Instr.index 93 (.agg #[.int .i64 0, .int .i64 (N : Int)]) (.int .i64 0)).run Tryd.prog W = .ok (.int .i64 0) W := fun W => ShaStep.index_arr (k := 0) W Tryd.underlying93 (e := 3) (by kernel_rfl) (by kernel_rfl) (by decide) rfl
  have hix1 : ∀ W, (Instr.index 93 (.agg #[.int .i64 0, .int .i64 (N : Int)]) (.int .i64 1)).run Tryd.prog W = .ok (.int .i64 (N : Int)) W := fun W => ShaStep.index_arr (k := 1) W Tryd.underlying93 (e := 3) (by kernel_rfl) (by kernel_rfl) (by decide) rfl
  have HC0 : Hid (∀ W, Fr0 w W → W.cell? ⟨p, 0, none⟩ = some (.slice sa d.S.length sc)) := Lib.hid (fun W f => Bk.cell (hv.keep f).blk 0)
  have hzr := zero_r
  have hzb := zero_bl
  have HIL := Lib.hid (info_l htl)
  have HSL := Lib.hid (size_l htl)
  have HOL := Lib.hid (one_l (tabL (⟨0, []⟩ : Rm)))
  have HIR : Hid ((Tryd.prog.info? 24).map (·.size) = some RZ.size) := Lib.hid (info_r _ _)
  have hNb : ((N : Int) == 0) = false := by rw [beq_eq_false_iff_ne]; omega
  clear hok hv hsh hC hh hS h1 h2 h3 htb htl hN
  generalize hd : flushD (writeD (writeD d 0 (tabL (⟨0, []⟩ : Rm))) (N : Int) (tabL (⟨0, []⟩ : Rm))) = dE at *
  generalize (writeD (writeD d 0 (tabL (⟨0, []⟩ : Rm))) (N : Int) (tabL (⟨0, []⟩ : Rm))) = d2 at *
  generalize (writeD d 0 (tabL (⟨0, []⟩ : Rm))) = d1 at *
  generalize tabL (⟨0, []⟩ : Rm) = L at *
  go_enter Tryd.func33, Tryd.ntmps33
  go_wp2_with (first | (go_at_call 57; (with_reducible refine (HHV.out _ HF1.out).mono ?_); rintro e w2 ⟨rfl, hf2⟩; have HF2 := Lib.hid (HF1.out.then0 hf2); have HR2 := Lib.hid (hf2.keep HR1.out (fun h => h)); have c2 := HC0.out _ HF2.out; clear hf2) | ((with_reducible show wpList _ _ _ ({ dst := _, op := Op.build 24 _, type := _, pos := _, after := _, guard := _ } :: _) _ _); refine build_ev rfl 24 _ rfl [] (by simp) RZ built_rz ?_) | (go_at_call 11; (with_reducible refine (HPU.out _ HF2.out).mono ?_); rintro e w3 ⟨rfl, hf3⟩; have HF3 := Lib.hid (HF2.out.then0 hf3); have HR3 := Lib.hid (hf3.keep HR2.out (fun h => h)); have HZ3 := Lib.hid (Bk.new w3 (.cells ZB 27)); clear hf3) | ((with_reducible show wpList _ _ _ ({ dst := _, op := Op.store 27 _ _, type := _, pos := _, after := _, guard := _ } :: _) _ _); refine wpList_store_row rfl 27 _ _ rfl w3.heap.size (L.map B).toArray rfl rfl 27 ZB HZ3.out HIL.out HSL.out HOL.out ?_))
  have hf4 : Fr0 w3 ((w3.alloc (.cells ZB 27)).setRow w3.heap.size (L.map B).toArray) := ArrKit.Fr.row (Fr.alloc (Fr.refl _ _) _) _ _ (.inl (Nat.le_refl _))
  have HG4 := Lib.hid (ArrKit.Bk.row HZ3.out (L.map B).toArray)
  have HR4 := Lib.hid (hf4.keep HR3.out (fun h => h))
  have HF4 := Lib.hid (HF3.out.then0 hf4)
  have hgw : w.heap.size < w3.heap.size := Bk.lt HR3.out
  clear hf4 HZ3 HR3 HF3 c2 HR2 HF2 HR1 HF1
  generalize (w3.alloc (.cells ZB 27)).setRow w3.heap.size (L.map B).toArray = w4 at *
  generalize w3.heap.size = gb at *
  have hgp : gb ≠ p := by omega
  have hRp : w.heap.size ≠ p := by omega
  refine wp_loop_rounds 3 ?_
  rw [rounds_succ]
  go_wp2_with (first | ((with_reducible show wpList _ _ _ ({ dst := _, op := Op.load 27 _, type := _, pos := _, after := _, guard := _ } :: _) _ _); refine wpList_load_row_g (by rfl) 27 _ rfl gb rfl 27 (L.map B).toArray (0, 0) _ HG4.out Tryd.underlying27 rfl HIL.out ?_) | (go_at_call 46; (with_reducible refine (HW1.out _ (HV.out.keep HF4.out)).mono ?_); rintro e w5 ⟨rfl, ⟨s5, n5, c5, m5, hv5⟩, hf5⟩; have HV5 := Lib.hid hv5; have HG5 := Lib.hid (hf5.keep HG4.out hgp); have HR5 := Lib.hid (hf5.keep HR4.out hRp); have HF5 : Hid (Fr (fun i => i = p) w w5) := Lib.hid ((HF4.out.weaken (fun _ _ h => h.elim)).trans hf5); clear hv5 hf5))
  rw [rounds_succ]
  go_wp2_with (first | ((with_reducible show wpList _ _ _ ({ dst := _, op := Op.load 27 _, type := _, pos := _, after := _, guard := _ } :: _) _ _); refine wpList_load_row_g (by rfl) 27 _ rfl gb rfl 27 (L.map B).toArray (0, 0) _ HG5.out Tryd.underlying27 rfl HIL.out ?_) | (go_at_call 46; (with_reducible refine (HW2.out _ _ _ _ _ HV5.out).mono ?_); rintro e w6 ⟨rfl, ⟨s6, n6, c6, m6, hv6⟩, hf6⟩; have HV6 := Lib.hid hv6; have HR6 := Lib.hid (hf6.keep HR5.out hRp); have HF6 : Hid (Fr (fun i => i = p) w w6) := Lib.hid (HF5.out.trans hf6); clear hv6 hf6))
  rw [rounds_succ]
  go_wp2_with (first | ((with_reducible show wpList _ _ _ ({ dst := _, op := Op.build 24 _, type := _, pos := _, after := _, guard := _ } :: _) _ _); refine build_ev rfl 24 _ rfl [] (by simp) RZ built_rz ?_) | (go_at_call 49; (with_reducible refine (HFL.out _ _ _ _ _ HV6.out).mono ?_); rintro e w7 ⟨rfl, hn7⟩; have HN7 := Lib.hid hn7; have HR7 := Lib.hid (hn7.fr.keep HR6.out hRp); clear hn7) | ((with_reducible show wpList _ _ _ ({ dst := _, op := Op.store 24 _ _, type := _, pos := _, after := _, guard := _ } :: _) _ _); refine wpList_store_row rfl 24 _ _ rfl w.heap.size RZ rfl rfl 24 RZ HR7.out HIR.out rfl (RC_all _ _ _ _) ?_))
  refine fin_ct w.heap.size 24 RZ (.int .i64 0) (by rfl) (by rfl) (by rfl) (by rfl) Tryd.underlying24 (by rfl) HIR.out (ArrKit.Bk.row HR7.out _) ?_
  obtain ⟨s7, n7, c7, m7, hv7⟩ := HN7.out.at_
  have h12 : Fr (fun i => i = w.heap.size) w7 (w7.setRow w.heap.size RZ) := Fr.row1 _ _ _
  refine ⟨rfl, ⟨_, _, _, _, DAt_past hv7 HOE.out h12 HR7.out (rc_no _ _ _ _) (fun e => hRp e.symm)⟩, ArrKit.Fr.row (HF6.out.trans HN7.out.fr) _ _ (.inl (Nat.le_refl _))⟩

end Go.Proofs.YtlleandelcjhjaaDoor.RmFormat
