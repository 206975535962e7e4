/- A sector written: the walk of the reference's Write. -/
import Derived.Test.YtlleandelcjhjaaDoorDiskWrite
set_option maxRecDepth 100000
set_option linter.unusedVariables false
set_option linter.unusedSimpArgs false
namespace Go.Proofs.YtlleandelcjhjaaDoor.DiskRWrite
open Go Go.RowKit Go.Proofs.YtlleandelcjhjaaDoor.K Go.Proofs.YtlleandelcjhjaaDoor.EqKit Go.Proofs.YtlleandelcjhjaaDoor.ArrKit Go.Proofs.YtlleandelcjhjaaDoor.HeldKit Go.Proofs.YtlleandelcjhjaaDoor.GKit Go.Proofs.YtlleandelcjhjaaDoor.GRow Go.Proofs.YtlleandelcjhjaaDoor.DiskKit Go.Proofs.YtlleandelcjhjaaDoor.DiskAsk Go.Proofs.YtlleandelcjhjaaDoor.DiskForm Go.Proofs.YtlleandelcjhjaaDoor.DiskAct Go.Proofs.YtlleandelcjhjaaDoor.DiskNew Go.Proofs.YtlleandelcjhjaaDoor.DiskCopy Go.Proofs.YtlleandelcjhjaaDoor.DiskLay Go.Proofs.YtlleandelcjhjaaDoor.DiskFlush Go.Proofs.YtlleandelcjhjaaDoor.DiskTwins Go.Proofs.YtlleandelcjhjaaDoor.DiskWrite Go.Proofs.YtlleandelcjhjaaDoor.GApp

set_option maxHeartbeats 2000000 in
set_option maxRecDepth 100000 in
theorem rwrite_unf (p : Nat) (a : Int) (b : List UInt8) (d : Dk) (sa : Option Addr) (sc : Nat) (ca : Option Addr) (cc : Nat) (w : World) (hok : d.ok) (hv : DAt w p d sa sc ca cc) (hb : b.length = 128) (hr : formedB d = false) : Calls Tryd.prog 51 #[.pointer (some ⟨p, 0, none⟩), .int .i64 a, .agg (b.map B).toArray] w fun e w' => e = .returned (.int .i64 1) ∧ Now w w' p d := by
  have HF0 : Hid (Fr0 w (w.alloc (.cells (b.map B).toArray 27))) := Lib.hid (Fr.alloc (Fr.refl _ _) _)
  have HX0 : Hid (Bk (w.alloc (.cells (b.map B).toArray 27)) w.heap.size (b.map B).toArray 27) := Lib.hid (Bk.new w _)
  have HRI := Lib.hid (rformed_calls d sa sc ca cc (w.alloc (.cells (b.map B).toArray 27)) (hv.v.keep HF0.out))
  have HTH : Hid (∀ W, Calls Tryd.prog 72 #[.agg (dval d sa sc ca cc), .int .i64 a] W fun e w' => e = .returned (.bool (thereB d.S.length a)) ∧ Fr0 W w') := Lib.hid (fun W => there_calls _ _ _ _ _ _ _ W)
  have HSP := Lib.hid (fun W (h : Fr0 (w.alloc (.cells (b.map B).toArray 27)) W) => act_calls p d sa sc ca cc W hok ((hv.keep HF0.out).keep h))
  have HV := Lib.hid hv
  have HV0 := Lib.hid (hv.keep HF0.out)
  have HOK := Lib.hid hok
  have hpw : p < w.heap.size := Bk.lt hv.blk
  rw [hr] at HRI
  clear hv hok hr
  go_enter Tryd.func51, Tryd.ntmps51
  go_wp2_with (first | ((with_reducible show wpList _ _ _ ({ dst := _, op := Op.load 39 _, type := _, pos := _, after := _, guard := _ } :: _) _ _); refine wpList_load_row_g (by rfl) 39 _ rfl p rfl 39 _ (0, 0) _ HV0.out.blk Tryd.underlying39 rfl info_d ?_) | (go_at_call 71; (with_reducible refine (HRI.out).mono ?_); rintro e w2 ⟨rfl, hf2⟩; have HFa := Lib.hid hf2; have HV2 := Lib.hid (HV0.out.keep hf2); clear hf2))
  go_ret
  exact ⟨rfl, Now.of0 HV.out (HF0.out.then0 HFa.out)⟩

set_option maxHeartbeats 2000000 in
set_option maxRecDepth 100000 in
theorem rwrite_out (p : Nat) (a : Int) (b : List UInt8) (d : Dk) (sa : Option Addr) (sc : Nat) (ca : Option Addr) (cc : Nat) (w : World) (hok : d.ok) (hv : DAt w p d sa sc ca cc) (hb : b.length = 128) (hr : formedB d = true) (ht : thereB d.S.length a = false) : Calls Tryd.prog 51 #[.pointer (some ⟨p, 0, none⟩), .int .i64 a, .agg (b.map B).toArray] w fun e w' => e = .returned (.int .i64 1) ∧ Now w w' p d := by
  have HF0 : Hid (Fr0 w (w.alloc (.cells (b.map B).toArray 27))) := Lib.hid (Fr.alloc (Fr.refl _ _) _)
  have HX0 : Hid (Bk (w.alloc (.cells (b.map B).toArray 27)) w.heap.size (b.map B).toArray 27) := Lib.hid (Bk.new w _)
  have HRI := Lib.hid (rformed_calls d sa sc ca cc (w.alloc (.cells (b.map B).toArray 27)) (hv.v.keep HF0.out))
  have HTH : Hid (∀ W, Calls Tryd.prog 72 #[.agg (dval d sa sc ca cc), .int .i64 a] W fun e w' => e = .returned (.bool (thereB d.S.length a)) ∧ Fr0 W w') := Lib.hid (fun W => there_calls _ _ _ _ _ _ _ W)
  have HSP := Lib.hid (fun W (h : Fr0 (w.alloc (.cells (b.map B).toArray 27)) W) => act_calls p d sa sc ca cc W hok ((hv.keep HF0.out).keep h))
  have HV := Lib.hid hv
  have HV0 := Lib.hid (hv.keep HF0.out)
  have HOK := Lib.hid hok
  have hpw : p < w.heap.size := Bk.lt hv.blk
  rw [hr] at HRI
  rw [ht] at HTH
  clear hv hok hr ht
  go_enter Tryd.func51, Tryd.ntmps51
  go_wp2_with (first | ((with_reducible show wpList _ _ _ ({ dst := _, op := Op.load 39 _, type := _, pos := _, after := _, guard := _ } :: _) _ _); refine wpList_load_row_g (by rfl) 39 _ rfl p rfl 39 _ (0, 0) _ HV0.out.blk Tryd.underlying39 rfl info_d ?_) | (go_at_call 71; (with_reducible refine (HRI.out).mono ?_); rintro e w2 ⟨rfl, hf2⟩; have HFa := Lib.hid hf2; have HV2 := Lib.hid (HV0.out.keep hf2); clear hf2) | ((with_reducible show wpList _ _ _ ({ dst := _, op := Op.load 39 _, type := _, pos := _, after := _, guard := _ } :: _) _ _); refine wpList_load_row_g (by rfl) 39 _ rfl p rfl 39 _ (0, 0) _ HV2.out.blk Tryd.underlying39 rfl info_d ?_) | (go_at_call 72; (with_reducible refine (HTH.out _).mono ?_); rintro e w2b ⟨rfl, hf2⟩; have HF2 := Lib.hid (HFa.out.then0 hf2); clear hf2))
  go_ret
  exact ⟨rfl, Now.of0 HV.out (HF0.out.then0 HF2.out)⟩

set_option maxHeartbeats 2000000 in
set_option maxRecDepth 100000 in
theorem rwrite_down (p : Nat) (a : Int) (b : List UInt8) (d : Dk) (sa : Option Addr) (sc : Nat) (ca : Option Addr) (cc : Nat) (w : World) (hok : d.ok) (hv : DAt w p d sa sc ca cc) (hb : b.length = 128) (hr : rightB d a = true) (ha : actE d = 3) : Calls Tryd.prog 51 #[.pointer (some ⟨p, 0, none⟩), .int .i64 a, .agg (b.map B).toArray] w fun e w' => e = .returned (.int .i64 3) ∧ Now w w' p (actD d) := by
  have HF0 : Hid (Fr0 w (w.alloc (.cells (b.map B).toArray 27))) := Lib.hid (Fr.alloc (Fr.refl _ _) _)
  have HX0 : Hid (Bk (w.alloc (.cells (b.map B).toArray 27)) w.heap.size (b.map B).toArray 27) := Lib.hid (Bk.new w _)
  have HRI := Lib.hid (rformed_calls d sa sc ca cc (w.alloc (.cells (b.map B).toArray 27)) (hv.v.keep HF0.out))
  have HTH : Hid (∀ W, Calls Tryd.prog 72 #[.agg (dval d sa sc ca cc), .int .i64 a] W fun e w' => e = .returned (.bool (thereB d.S.length a)) ∧ Fr0 W w') := Lib.hid (fun W => there_calls _ _ _ _ _ _ _ W)
  have HSP := Lib.hid (fun W (h : Fr0 (w.alloc (.cells (b.map B).toArray 27)) W) => act_calls p d sa sc ca cc W hok ((hv.keep HF0.out).keep h))
  have HV := Lib.hid hv
  have HV0 := Lib.hid (hv.keep HF0.out)
  have HOK := Lib.hid hok
  have hpw : p < w.heap.size := Bk.lt hv.blk
  have hrb := hr
  rw [rightB, Bool.and_eq_true] at hrb
  rw [hrb.1] at HTH
  rw [hrb.2] at HRI
  clear hrb
  rw [ha] at HSP
  clear hv hok hr ha
  go_enter Tryd.func51, Tryd.ntmps51
  go_wp2_with (first | ((with_reducible show wpList _ _ _ ({ dst := _, op := Op.load 39 _, type := _, pos := _, after := _, guard := _ } :: _) _ _); refine wpList_load_row_g (by rfl) 39 _ rfl p rfl 39 _ (0, 0) _ HV0.out.blk Tryd.underlying39 rfl info_d ?_) | (go_at_call 71; (with_reducible refine (HRI.out).mono ?_); rintro e w2 ⟨rfl, hf2⟩; have HFa := Lib.hid hf2; have HV2 := Lib.hid (HV0.out.keep hf2); clear hf2) | ((with_reducible show wpList _ _ _ ({ dst := _, op := Op.load 39 _, type := _, pos := _, after := _, guard := _ } :: _) _ _); refine wpList_load_row_g (by rfl) 39 _ rfl p rfl 39 _ (0, 0) _ HV2.out.blk Tryd.underlying39 rfl info_d ?_) | (go_at_call 72; (with_reducible refine (HTH.out _).mono ?_); rintro e w2b ⟨rfl, hf2⟩; have HF2 := Lib.hid (HFa.out.then0 hf2); clear hf2) | (go_at_call 78; (with_reducible refine (HSP.out _ HF2.out).mono ?_); rintro e w3 ⟨rfl, hf3⟩; have HA3 := Lib.hid hf3; clear hf3))
  go_ret
  exact ⟨rfl, Now.fr0 (HF0.out.then0 HF2.out) HA3.out.now⟩

set_option maxHeartbeats 2000000 in
set_option maxRecDepth 100000 in
theorem rwrite_nw (p : Nat) (a : Int) (b : List UInt8) (d : Dk) (sa : Option Addr) (sc : Nat) (ca : Option Addr) (cc : Nat) (w : World) (hok : d.ok) (hv : DAt w p d sa sc ca cc) (hb : b.length = 128) (hr : rightB d a = true) (ha : actE d = 0) (hn : (secAt d a).nw = true) : Calls Tryd.prog 51 #[.pointer (some ⟨p, 0, none⟩), .int .i64 a, .agg (b.map B).toArray] w fun e w' => e = .returned (.int .i64 2) ∧ Now w w' p (actD d) := by
  have HF0 : Hid (Fr0 w (w.alloc (.cells (b.map B).toArray 27))) := Lib.hid (Fr.alloc (Fr.refl _ _) _)
  have HX0 : Hid (Bk (w.alloc (.cells (b.map B).toArray 27)) w.heap.size (b.map B).toArray 27) := Lib.hid (Bk.new w _)
  have HRI := Lib.hid (rformed_calls d sa sc ca cc (w.alloc (.cells (b.map B).toArray 27)) (hv.v.keep HF0.out))
  have HTH : Hid (∀ W, Calls Tryd.prog 72 #[.agg (dval d sa sc ca cc), .int .i64 a] W fun e w' => e = .returned (.bool (thereB d.S.length a)) ∧ Fr0 W w') := Lib.hid (fun W => there_calls _ _ _ _ _ _ _ W)
  have HSP := Lib.hid (fun W (h : Fr0 (w.alloc (.cells (b.map B).toArray 27)) W) => act_calls p d sa sc ca cc W hok ((hv.keep HF0.out).keep h))
  have HV := Lib.hid hv
  have HV0 := Lib.hid (hv.keep HF0.out)
  have HOK := Lib.hid hok
  have hpw : p < w.heap.size := Bk.lt hv.blk
  have hrb := hr
  rw [rightB, Bool.and_eq_true] at hrb
  rw [hrb.1] at HTH
  rw [hrb.2] at HRI
  clear hrb
  have hrt := hr
  rw [rightB, Bool.and_eq_true] at hrt
  have htt := thereB_true.1 hrt.1
  have ha0 := htt.1
  have ha1 := htt.2
  have hq : a.toNat < d.S.length := by omega
  have hsn := hv.v.sn
  have hsm := hv.v.sm
  have hcn := hv.v.cn
  have hcm := hv.v.cm
  have HSX : Hid (secAt d a = d.S[a.toNat]) := Lib.hid (by rw [secAt, List.getD_eq_getElem?_getD, List.getElem?_eq_getElem hq]; rfl)
  rw [HSX.out] at hn
  have HAS := Lib.hid (actD_S d)
  have HAC := Lib.hid (actD_C d)
  obtain ⟨sb, so, hso, -⟩ := hv.v.rs _ hq
  subst hso
  clear htt hrt
  rw [ha] at HSP
  have HN := Lib.hid hn
  clear hv hok hr ha hn
  go_enter Tryd.func51, Tryd.ntmps51
  go_wp2_with (first | ((with_reducible show wpList _ _ _ ({ dst := _, op := Op.load 39 _, type := _, pos := _, after := _, guard := _ } :: _) _ _); refine wpList_load_row_g (by rfl) 39 _ rfl p rfl 39 _ (0, 0) _ HV0.out.blk Tryd.underlying39 rfl info_d ?_) | (go_at_call 71; (with_reducible refine (HRI.out).mono ?_); rintro e w2 ⟨rfl, hf2⟩; have HFa := Lib.hid hf2; have HV2 := Lib.hid (HV0.out.keep hf2); clear hf2) | ((with_reducible show wpList _ _ _ ({ dst := _, op := Op.load 39 _, type := _, pos := _, after := _, guard := _ } :: _) _ _); refine wpList_load_row_g (by rfl) 39 _ rfl p rfl 39 _ (0, 0) _ HV2.out.blk Tryd.underlying39 rfl info_d ?_) | (go_at_call 72; (with_reducible refine (HTH.out _).mono ?_); rintro e w2b ⟨rfl, hf2⟩; have HF2 := Lib.hid (HFa.out.then0 hf2); clear hf2) | (go_at_call 78; (with_reducible refine (HSP.out _ HF2.out).mono ?_); rintro e w3 ⟨rfl, hf3⟩; have HA3 := Lib.hid hf3; have q0 : w3.cell? ⟨p, 0, none⟩ = some (.slice (some ⟨sb, so, none⟩) d.S.length sc) := (Bk.cell hf3.at_.blk 0).trans (by show some (Value.slice _ (actD d).S.length _) = _; rw [HAS.out]); have hrg : w3.rangeAt sb (so + a.toNat * 130) d.S[a.toNat].cells := (by have := hf3.at_.v.rs; rw [HAS.out] at this; exact RdG.at this hq); have hnw : w3.cell? ⟨sb, so + a.toNat * 130 + 129, none⟩ = some (.bool true) := (hrg 129 _ (Sec.nw_at (HOK.out.s _ (List.getElem_mem hq)))).trans (by rw [HN.out]); clear hrg; clear hf3))
  go_ret
  exact ⟨rfl, Now.fr0 (HF0.out.then0 HF2.out) HA3.out.now⟩

set_option maxHeartbeats 2000000 in
set_option maxRecDepth 100000 in
theorem rwrite_yes (p : Nat) (a : Int) (b : List UInt8) (d : Dk) (sa : Option Addr) (sc : Nat) (ca : Option Addr) (cc : Nat) (w : World) (hok : d.ok) (hv : DAt w p d sa sc ca cc) (hb : b.length = 128) (hC : (d.C.length + 1) * 136 ≤ 140737488355328) (hwa : (Lit.int .i64 a).wf = true) (hr : rightB d a = true) (ha : actE d = 0) (hn : (secAt d a).nw = false) : Calls Tryd.prog 51 #[.pointer (some ⟨p, 0, none⟩), .int .i64 a, .agg (b.map B).toArray] w fun e w' => e = .returned (.int .i64 0) ∧ Now w w' p { actD d with C := d.C ++ [⟨a, b⟩] } := by
  have HF0 : Hid (Fr0 w (w.alloc (.cells (b.map B).toArray 27))) := Lib.hid (Fr.alloc (Fr.refl _ _) _)
  have HX0 : Hid (Bk (w.alloc (.cells (b.map B).toArray 27)) w.heap.size (b.map B).toArray 27) := Lib.hid (Bk.new w _)
  have HRI := Lib.hid (rformed_calls d sa sc ca cc (w.alloc (.cells (b.map B).toArray 27)) (hv.v.keep HF0.out))
  have HTH : Hid (∀ W, Calls Tryd.prog 72 #[.agg (dval d sa sc ca cc), .int .i64 a] W fun e w' => e = .returned (.bool (thereB d.S.length a)) ∧ Fr0 W w') := Lib.hid (fun W => there_calls _ _ _ _ _ _ _ W)
  have HSP := Lib.hid (fun W (h : Fr0 (w.alloc (.cells (b.map B).toArray 27)) W) => act_calls p d sa sc ca cc W hok ((hv.keep HF0.out).keep h))
  have HV := Lib.hid hv
  have HV0 := Lib.hid (hv.keep HF0.out)
  have HOK := Lib.hid hok
  have hpw : p < w.heap.size := Bk.lt hv.blk
  have hrb := hr
  rw [rightB, Bool.and_eq_true] at hrb
  rw [hrb.1] at HTH
  rw [hrb.2] at HRI
  clear hrb
  have hrt := hr
  rw [rightB, Bool.and_eq_true] at hrt
  have htt := thereB_true.1 hrt.1
  have ha0 := htt.1
  have ha1 := htt.2
  have hq : a.toNat < d.S.length := by omega
  have hsn := hv.v.sn
  have hsm := hv.v.sm
  have hcn := hv.v.cn
  have hcm := hv.v.cm
  have HSX : Hid (secAt d a = d.S[a.toNat]) := Lib.hid (by rw [secAt, List.getD_eq_getElem?_getD, List.getElem?_eq_getElem hq]; rfl)
  rw [HSX.out] at hn
  have HAS := Lib.hid (actD_S d)
  have HAC := Lib.hid (actD_C d)
  obtain ⟨sb, so, hso, -⟩ := hv.v.rs _ hq
  subst hso
  clear htt hrt
  rw [ha] at HSP
  have HN := Lib.hid hn
  have HIX : Hid ((Tryd.prog.info? 27).map (·.size) = some (b.map B).toArray.size) := Lib.hid (by rw [info_b, List.size_toArray, List.length_map, hb])
  have HBW := Lib.hid (built_wri a b hb)
  have hwok : (Wri.mk a b).ok := ⟨hb, hwa⟩
  have HWOK := Lib.hid hwok
  have HX2 : Hid ((Wri.mk a b).cells.toArray.size = 129) := Lib.hid (by rw [List.size_toArray, Wri.leng hwok])
  obtain ⟨i1, hi, hz0, hz1, hz2⟩ := info_parts infoW
  have HJ : Hid (Tryd.prog.info? 79 = some i1 ∧ i1.zero = some (.agg (Wri.mk 0 Z128).cells.toArray) ∧ i1.size = 129 ∧ i1.bytes = 136) := Lib.hid ⟨hi, hz0, hz1, hz2⟩
  clear hi hz0 hz1 hz2
  clear hv hok hr ha hn hwok
  go_enter Tryd.func51, Tryd.ntmps51
  go_wp2_with (first | ((with_reducible show wpList _ _ _ ({ dst := _, op := Op.load 39 _, type := _, pos := _, after := _, guard := _ } :: _) _ _); refine wpList_load_row_g (by rfl) 39 _ rfl p rfl 39 _ (0, 0) _ HV0.out.blk Tryd.underlying39 rfl info_d ?_) | (go_at_call 71; (with_reducible refine (HRI.out).mono ?_); rintro e w2 ⟨rfl, hf2⟩; have HFa := Lib.hid hf2; have HV2 := Lib.hid (HV0.out.keep hf2); clear hf2) | ((with_reducible show wpList _ _ _ ({ dst := _, op := Op.load 39 _, type := _, pos := _, after := _, guard := _ } :: _) _ _); refine wpList_load_row_g (by rfl) 39 _ rfl p rfl 39 _ (0, 0) _ HV2.out.blk Tryd.underlying39 rfl info_d ?_) | (go_at_call 72; (with_reducible refine (HTH.out _).mono ?_); rintro e w2b ⟨rfl, hf2⟩; have HF2 := Lib.hid (HFa.out.then0 hf2); clear hf2) | (go_at_call 78; (with_reducible refine (HSP.out _ HF2.out).mono ?_); rintro e w3 ⟨rfl, hf3⟩; have HA3 := Lib.hid hf3; have q0 : w3.cell? ⟨p, 0, none⟩ = some (.slice (some ⟨sb, so, none⟩) d.S.length sc) := (Bk.cell hf3.at_.blk 0).trans (by show some (Value.slice _ (actD d).S.length _) = _; rw [HAS.out]); have hrg : w3.rangeAt sb (so + a.toNat * 130) d.S[a.toNat].cells := (by have := hf3.at_.v.rs; rw [HAS.out] at this; exact RdG.at this hq); have hnw : w3.cell? ⟨sb, so + a.toNat * 130 + 129, none⟩ = some (.bool false) := (hrg 129 _ (Sec.nw_at (HOK.out.s _ (List.getElem_mem hq)))).trans (by rw [HN.out]); clear hrg; clear hf3))
  have HST : Hid (Stand [(w.heap.size, .cells (b.map B).toArray 27 (0, 0))] w3) := Lib.hid (Stand.cons ((HA3.out.fr).keep (HF2.out.keep HX0.out (fun h => h)) (by omega)) (Stand.nil _))
  have HP0 : Hid (Bk w3.drew p (dval (actD d) (some ⟨sb, so, none⟩) sc ca cc) 39) := Lib.hid HA3.out.at_.blk
  have HDV0 : Hid (DV w3.drew (actD d) (some ⟨sb, so, none⟩) sc ca cc) := Lib.hid (HA3.out.at_.v.keep (Fr.drew (Fr.refl _ _)))
  have HRC0 : Hid (RdC w3.drew ca d.C) := Lib.hid (by have := HDV0.out.rc; rwa [HAC.out] at this)
  have HPF0 : Hid (Fr (fun i => i = p) w w3.drew) := Lib.hid (Fr.drew (((HF0.out.then0 HF2.out).weaken (fun _ _ h => h.elim)).trans HA3.out.fr))
  have HB0 : Hid (Fr0 w3.drew w3.drew) := Lib.hid (Fr.refl _ _)
  have HXL : Hid (w.heap.size < w3.drew.heap.size) := Lib.hid (Bk.lt (show w3.heap[w.heap.size]? = _ from Stand.a0 HST.out))
  have HC1 : Hid ((dval (actD d) (some ⟨sb, so, none⟩) sc ca cc)[1]? = some (.slice ca d.C.length cc)) := Lib.hid (by show some (Value.slice ca (actD d).C.length cc) = _; rw [HAC.out])
  have hxp : w.heap.size ≠ p := by omega
  clear q0 hnw
  refine wp_region_noPanic ?_
  refine wp_region_held_drew (S := (Stand [(w.heap.size, .cells (b.map B).toArray 27 (0, 0))])) (by kernel_rfl) (Stand.drew HST.out) (fun hHeld0 => ?_)
  generalize w3.drew = wd at *
  refine tk0 (i := 0) (v := .pointer (some ⟨p, 0, none⟩)) rfl hHeld0 ?_
  simp only [Act.put, zA, zB, zC, zD, zE, zF]
  refine tk0 (i := 2) (v := .pointer (some ⟨p, 0, none⟩)) rfl hHeld0 ?_
  simp only [Act.put, zA, zB, zC, zD, zE, zF]
  refine tk0 (i := 3) (v := .pointer (some ⟨p, 0, none⟩)) rfl hHeld0 ?_
  simp only [Act.put, zA, zB, zC, zD, zE, zF]
  refine tk0 (i := 4) (v := .pointer (some ⟨p, 1, none⟩)) rfl hHeld0 ?_
  simp only [Act.put, zA, zB, zC, zD, zE, zF]
  refine tk0 (i := 7) (v := .int .i64 a) rfl hHeld0 ?_
  simp only [Act.put, zA, zB, zC, zD, zE, zF]
  refine tk (i := 8) (v := .agg (b.map B).toArray) rfl (yields_row (by kernel_rfl) 27 _ rfl (w.heap.size) rfl 27 (b.map B).toArray (0, 0) _ (fun W h => Stand.a0 h) Tryd.underlying27 rfl HIX.out) hHeld0 ?_
  simp only [Act.put, zA, zB, zC, zD, zE, zF]
  refine tk (i := 9) (v := .agg (Wri.mk a b).cells.toArray) rfl (Or.inl ⟨by kernel_rfl, fun w hSw => GApp.run_build_op 79 _ rfl [(0, .int .i64 a), (1, .agg (b.map B).toArray)] (by simp [Act.eval, Act.put]) _ HBW.out⟩) hHeld0 ?_
  simp only [Act.put, zA, zB, zC, zD, zE, zF]
  change wpAnyH _ _ _ _ _ 8 #[true, false, true, true, true, false, false, true, true, true, false, false, false, false, false] _ _
  refine wpAnyH_ready (rs := [1, 5, 10]) (by kernel_rfl) (by simp) ?_
  refine AllReadyH.cons rfl (fun K hK => ?_) (AllReadyH.cons rfl (fun K hK => ?_) (AllReadyH.cons rfl (fun K hK => ?_) (AllReadyH.nil)))
  · simp only [zA, zB, zC]
    refine (if_pos (by kernel_rfl)).mpr ?_
    refine GApp.wp_buildSlice_nil 37 rfl 79 i1 Tryd.underlying37 HJ.out.1 ?_
    refine hK.out _ _ (Stand.fr hHeld0 (Fr.alloc (Fr.refl (fun _ => False) _) _) (fun _ _ h => h)) (fun hHeld1 => ?_)
    clear hK K hHeld0
    have HGE0 : Hid (wd.heap.size ≤ wd.heap.size) := Lib.hid HB0.out.size
    have HB1 : Hid (Fr0 wd (wd.alloc (.cells #[] 79))) := Lib.hid (Fr.then0 HB0.out (Fr.alloc (Fr.refl (fun _ => False) wd) _))
    have HE1 : Hid (Bk (wd.alloc (.cells #[] 79)) wd.heap.size #[] 79) := Lib.hid (Bk.new _ _)
    generalize (wd.alloc (.cells #[] 79)) = wy0 at *
    change wpAnyH _ _ _ _ _ 7 #[true, true, true, true, true, false, false, true, true, true, false, false, false, false, false] _ _
    refine wpAnyH_ready (rs := [5, 10]) (by kernel_rfl) (by simp) ?_
    refine AllReadyH.cons rfl (fun K hK => ?_) (AllReadyH.cons rfl (fun K hK => ?_) (AllReadyH.nil))
    · simp only [zA, zB, zC]
      refine (if_pos (by kernel_rfl)).mpr ?_
      have hbp := HB1.out.keep HP0.out (fun h => h)
      have q1 : wy0.cell? ⟨p, 1, none⟩ = some (.slice ca d.C.length cc) := (Bk.cell hbp 1).trans HC1.out
      have hlp : p < wy0.heap.size := Bk.lt hbp
      go_wp2_with fail
      refine hK.out _ _ (hHeld1) (fun hHeld2 => ?_)
      clear hK K hHeld1
      clear q1 hlp hbp
      change wpAnyH _ _ _ _ _ 6 #[true, true, true, true, true, true, false, true, true, true, false, false, false, false, false] _ _
      refine wpAnyH_ready (rs := [6, 10]) (by kernel_rfl) (by simp) ?_
      refine AllReadyH.cons rfl (fun K hK => ?_) (AllReadyH.cons rfl (fun K hK => ?_) (AllReadyH.nil))
      · simp only [zA, zB, zC]
        refine (if_pos (by kernel_rfl)).mpr ?_
        obtain ⟨g, cap, cur, wv, hr5, hg5, ho5, hf5⟩ := run_append_all (P := Tryd.prog) wy0 37 37 i1 _ 136 Tryd.underlying37 HJ.out.1 HJ.out.2.1 HJ.out.2.2.1 HJ.out.2.2.2 ZWC_cells (by decide) (wd.heap.size) HE1.out ca d.C.length cc d.C rfl (RdG.keep HRC0.out HB1.out) (wris_len HOK.out.c) (fun x _ => Wri.one x) (by omega) (by omega)
        have hwge : wd.heap.size ≤ wd.heap.size := HGE0.out
        have hhx : w.heap.size < wd.heap.size := HXL.out
        refine GApp.wp_append_run _ _ 37 rfl _ _ _ rfl rfl hr5 ?_
        refine hK.out _ _ (Stand.fr hHeld2 hf5 (fun r hr => by simp only [List.mem_cons, List.not_mem_nil, or_false] at hr; subst hr; show ¬ w.heap.size = wd.heap.size; omega)) (fun hHeld3 => ?_)
        clear hK K hHeld2
        have HB3 : Hid (Fr0 wd wv) := Lib.hid (Fr.newG HB1.out hf5 hwge)
        have HO3 := Lib.hid ho5
        have HG3 := Lib.hid hg5
        clear hr5 hf5 ho5
        change wpAnyH _ _ _ _ _ 5 #[true, true, true, true, true, true, true, true, true, true, false, false, false, false, false] _ _
        refine wpAnyH_ready (rs := [10]) (by kernel_rfl) (by simp) ?_
        refine AllReadyH.cons rfl (fun K hK => ?_) AllReadyH.nil
        simp only [zA, zB, zC]
        refine (if_pos (by kernel_rfl)).mpr ?_
        refine GApp.wp_buildSlice_one 37 _ rfl 79 i1 _ 129 Tryd.underlying37 HJ.out.1 HJ.out.2.1 HJ.out.2.2.1 (by decide) (by decide) (Wri.mk a b).cells.toArray HX2.out rfl ?_
        refine hK.out _ _ (Stand.fr hHeld3 (Fr.alloc (Fr.refl (fun _ => False) _) _) (fun _ _ h => h)) (fun hHeld4 => ?_)
        clear hK K hHeld3
        have HB4 : Hid (Fr0 wd (wv.alloc (.cells (Wri.mk a b).cells.toArray 79))) := Lib.hid (Fr.then0 HB3.out (Fr.alloc (Fr.refl (fun _ => False) wv) _))
        have HO4 : Hid (OwnW (wv.alloc (.cells (Wri.mk a b).cells.toArray 79)) g cap cur d.C) := Lib.hid (OwnG.keep HO3.out (Fr.alloc (Fr.refl (fun _ => False) wv) _) (fun h => h))
        have HN4 : Hid (Bk (wv.alloc (.cells (Wri.mk a b).cells.toArray 79)) wv.heap.size (Wri.mk a b).cells.toArray 79) := Lib.hid (Bk.new _ _)
        generalize (wv.alloc (.cells (Wri.mk a b).cells.toArray 79)) = wy3 at *
        change wpAnyH _ _ _ _ _ 4 #[true, true, true, true, true, true, true, true, true, true, true, false, false, false, false] _ _
        refine wpAnyH_ready (rs := [11]) (by kernel_rfl) (by simp) ?_
        refine AllReadyH.cons rfl (fun K hK => ?_) AllReadyH.nil
        simp only [zA, zB, zC]
        refine (if_pos (by kernel_rfl)).mpr ?_
        obtain ⟨g2, cap2, cur2, wz, hr6, hg6, ho6, hf6⟩ := GApp.run_append_own1 (P := Tryd.prog) wy3 37 37 i1 _ 136 (wd.heap.size) Tryd.underlying37 HJ.out.1 HJ.out.2.1 HJ.out.2.2.1 HJ.out.2.2.2 ZWC_cells (by decide) g cap cur d.C.length d.C rfl HO4.out HG3.out (wris_len HOK.out.c) (wv.heap.size) 1 ⟨a, b⟩ (Wri.leng HWOK.out) (Wri.one _) HN4.out (by omega) hC
        have hgge : wd.heap.size ≤ g := HG3.out
        refine GApp.wp_append_run _ _ 37 rfl _ _ _ rfl rfl hr6 ?_
        refine hK.out _ _ (Stand.fr hHeld4 hf6 (fun r hr => by simp only [List.mem_cons, List.not_mem_nil, or_false] at hr; subst hr; show ¬ w.heap.size = g; omega)) (fun hHeld5 => ?_)
        clear hK K hHeld4
        have HB5 : Hid (Fr0 wd wz) := Lib.hid (Fr.newG HB4.out hf6 (by omega))
        have HO5 := Lib.hid ho6
        have HG5 := Lib.hid hg6
        clear hr6 hf6 ho6 hg6
        refine tk0 (i := 12) (v := .pointer (some ⟨p, 0, none⟩)) rfl hHeld5 ?_
        simp only [Act.put, zA, zB, zC, zD, zE, zF]
        refine tk0 (i := 13) (v := .pointer (some ⟨p, 1, none⟩)) rfl hHeld5 ?_
        simp only [Act.put, zA, zB, zC, zD, zE, zF]
        change wpAnyH _ _ _ _ _ 1 #[true, true, true, true, true, true, true, true, true, true, true, true, true, true, false] _ _
        refine wpAnyH_ready (rs := [14]) (by kernel_rfl) (by simp) ?_
        refine AllReadyH.cons rfl (fun K hK => ?_) AllReadyH.nil
        simp only [zA, zB, zC]
        refine (if_pos (by kernel_rfl)).mpr ?_
        have hbp := HB5.out.keep HP0.out (fun h => h)
        have q1 : wz.cell? ⟨p, 1, none⟩ = some (.slice ca d.C.length cc) := (Bk.cell hbp 1).trans HC1.out
        have f1 := Bk.free hbp 1
        go_wp2_with fail
        refine hK.out _ _ (Stand.fr hHeld5 (Fr.set1 _ _ _ _) (fun r hr => by simp only [List.mem_cons, List.not_mem_nil, or_false] at hr; subst hr; exact hxp)) (fun hHeld6 => ?_)
        clear hK K hHeld5
        clear q1 f1 hbp
        change wpAnyH _ _ _ _ _ 0 #[true, true, true, true, true, true, true, true, true, true, true, true, true, true, true] _ _
        refine wpAnyH_done (by kernel_rfl) ?_ _
        refine NoPanic.normal ?_
        have HEND := Lib.hid hHeld6
        clear hHeld6
        go_wp2_with fail
        go_ret
        have hgp : g2 ≠ p := by have h2 := HG5.out; have h3 := Bk.lt HP0.out; omega
        have hbp := HB5.out.keep HP0.out (fun h => h)
        have hfs := Fr.set1 wz p 1 (.slice (some ⟨g2, 0, none⟩) (d.C.length + 1) cap2)
        have hv5 := DV.past (d := actD d) (HDV0.out.keep HB5.out) (actD_ok HOK.out) hfs hbp (dval_no _ _ _ _ _)
        have ho5 := OwnG.keep HO5.out hfs hgp
        refine ⟨rfl, ⟨⟨some ⟨sb, so, none⟩, sc, some ⟨g2, 0, none⟩, cap2, ?_, ?_⟩, (HPF0.out.then0 HB5.out).trans hfs⟩⟩
        · have := Bk.set hbp 1 (.slice (some ⟨g2, 0, none⟩) (d.C.length + 1) cap2)
          simp only [dval, List.length_append, List.length_cons, List.length_nil]
          exact this
        · exact ⟨hv5.rs, ho5.rd, hv5.sn, hv5.sm, ho5.room, ho5.max⟩
      · simp only [zA, zB, zC]
        refine (if_pos (by kernel_rfl)).mpr ?_
        refine GApp.wp_buildSlice_one 37 _ rfl 79 i1 _ 129 Tryd.underlying37 HJ.out.1 HJ.out.2.1 HJ.out.2.2.1 (by decide) (by decide) (Wri.mk a b).cells.toArray HX2.out rfl ?_
        refine hK.out _ _ (Stand.fr hHeld2 (Fr.alloc (Fr.refl (fun _ => False) _) _) (fun _ _ h => h)) (fun hHeld3 => ?_)
        clear hK K hHeld2
        have HNE : Hid (¬ wy0.heap.size = wd.heap.size) := Lib.hid (Nat.ne_of_gt (Bk.lt HE1.out))
        have HB3 : Hid (Fr0 wd (wy0.alloc (.cells (Wri.mk a b).cells.toArray 79))) := Lib.hid (Fr.then0 HB1.out (Fr.alloc (Fr.refl (fun _ => False) wy0) _))
        have HE3 : Hid (Bk (wy0.alloc (.cells (Wri.mk a b).cells.toArray 79)) wd.heap.size #[] 79) := Lib.hid (Fr.keep (Fr.alloc (Fr.refl (fun _ => False) wy0) _) HE1.out (fun h => h))
        have HN3 : Hid (Bk (wy0.alloc (.cells (Wri.mk a b).cells.toArray 79)) wy0.heap.size (Wri.mk a b).cells.toArray 79) := Lib.hid (Bk.new _ _)
        generalize (wy0.alloc (.cells (Wri.mk a b).cells.toArray 79)) = wy2 at *
        change wpAnyH _ _ _ _ _ 5 #[true, true, true, true, true, true, false, true, true, true, true, false, false, false, false] _ _
        refine wpAnyH_ready (rs := [6]) (by kernel_rfl) (by simp) ?_
        refine AllReadyH.cons rfl (fun K hK => ?_) AllReadyH.nil
        simp only [zA, zB, zC]
        refine (if_pos (by kernel_rfl)).mpr ?_
        obtain ⟨g, cap, cur, wv, hr5, hg5, ho5, hf5⟩ := run_append_all (P := Tryd.prog) wy2 37 37 i1 _ 136 Tryd.underlying37 HJ.out.1 HJ.out.2.1 HJ.out.2.2.1 HJ.out.2.2.2 ZWC_cells (by decide) (wd.heap.size) HE3.out ca d.C.length cc d.C rfl (RdG.keep HRC0.out HB3.out) (wris_len HOK.out.c) (fun x _ => Wri.one x) (by omega) (by omega)
        have hwge : wd.heap.size ≤ wd.heap.size := HGE0.out
        have hhx : w.heap.size < wd.heap.size := HXL.out
        refine GApp.wp_append_run _ _ 37 rfl _ _ _ rfl rfl hr5 ?_
        refine hK.out _ _ (Stand.fr hHeld3 hf5 (fun r hr => by simp only [List.mem_cons, List.not_mem_nil, or_false] at hr; subst hr; show ¬ w.heap.size = wd.heap.size; omega)) (fun hHeld4 => ?_)
        clear hK K hHeld3
        have HB4 : Hid (Fr0 wd wv) := Lib.hid (Fr.newG HB3.out hf5 hwge)
        have HN4 : Hid (Bk wv wy0.heap.size (Wri.mk a b).cells.toArray 79) := Lib.hid (Fr.keep hf5 HN3.out HNE.out)
        have HO4 := Lib.hid ho5
        have HG4 := Lib.hid hg5
        clear hr5 hf5 ho5
        change wpAnyH _ _ _ _ _ 4 #[true, true, true, true, true, true, true, true, true, true, true, false, false, false, false] _ _
        refine wpAnyH_ready (rs := [11]) (by kernel_rfl) (by simp) ?_
        refine AllReadyH.cons rfl (fun K hK => ?_) AllReadyH.nil
        simp only [zA, zB, zC]
        refine (if_pos (by kernel_rfl)).mpr ?_
        obtain ⟨g2, cap2, cur2, wz, hr6, hg6, ho6, hf6⟩ := GApp.run_append_own1 (P := Tryd.prog) wv 37 37 i1 _ 136 (wd.heap.size) Tryd.underlying37 HJ.out.1 HJ.out.2.1 HJ.out.2.2.1 HJ.out.2.2.2 ZWC_cells (by decide) g cap cur d.C.length d.C rfl HO4.out HG4.out (wris_len HOK.out.c) (wy0.heap.size) 1 ⟨a, b⟩ (Wri.leng HWOK.out) (Wri.one _) HN4.out (by omega) hC
        have hgge : wd.heap.size ≤ g := HG4.out
        refine GApp.wp_append_run _ _ 37 rfl _ _ _ rfl rfl hr6 ?_
        refine hK.out _ _ (Stand.fr hHeld4 hf6 (fun r hr => by simp only [List.mem_cons, List.not_mem_nil, or_false] at hr; subst hr; show ¬ w.heap.size = g; omega)) (fun hHeld5 => ?_)
        clear hK K hHeld4
        have HB5 : Hid (Fr0 wd wz) := Lib.hid (Fr.newG HB4.out hf6 (by omega))
        have HO5 := Lib.hid ho6
        have HG5 := Lib.hid hg6
        clear hr6 hf6 ho6 hg6
        refine tk0 (i := 12) (v := .pointer (some ⟨p, 0, none⟩)) rfl hHeld5 ?_
        simp only [Act.put, zA, zB, zC, zD, zE, zF]
        refine tk0 (i := 13) (v := .pointer (some ⟨p, 1, none⟩)) rfl hHeld5 ?_
        simp only [Act.put, zA, zB, zC, zD, zE, zF]
        change wpAnyH _ _ _ _ _ 1 #[true, true, true, true, true, true, true, true, true, true, true, true, true, true, false] _ _
        refine wpAnyH_ready (rs := [14]) (by kernel_rfl) (by simp) ?_
        refine AllReadyH.cons rfl (fun K hK => ?_) AllReadyH.nil
        simp only [zA, zB, zC]
        refine (if_pos (by kernel_rfl)).mpr ?_
        have hbp := HB5.out.keep HP0.out (fun h => h)
        have q1 : wz.cell? ⟨p, 1, none⟩ = some (.slice ca d.C.length cc) := (Bk.cell hbp 1).trans HC1.out
        have f1 := Bk.free hbp 1
        go_wp2_with fail
        refine hK.out _ _ (Stand.fr hHeld5 (Fr.set1 _ _ _ _) (fun r hr => by simp only [List.mem_cons, List.not_mem_nil, or_false] at hr; subst hr; exact hxp)) (fun hHeld6 => ?_)
        clear hK K hHeld5
        clear q1 f1 hbp
        change wpAnyH _ _ _ _ _ 0 #[true, true, true, true, true, true, true, true, true, true, true, true, true, true, true] _ _
        refine wpAnyH_done (by kernel_rfl) ?_ _
        refine NoPanic.normal ?_
        have HEND := Lib.hid hHeld6
        clear hHeld6
        go_wp2_with fail
        go_ret
        have hgp : g2 ≠ p := by have h2 := HG5.out; have h3 := Bk.lt HP0.out; omega
        have hbp := HB5.out.keep HP0.out (fun h => h)
        have hfs := Fr.set1 wz p 1 (.slice (some ⟨g2, 0, none⟩) (d.C.length + 1) cap2)
        have hv5 := DV.past (d := actD d) (HDV0.out.keep HB5.out) (actD_ok HOK.out) hfs hbp (dval_no _ _ _ _ _)
        have ho5 := OwnG.keep HO5.out hfs hgp
        refine ⟨rfl, ⟨⟨some ⟨sb, so, none⟩, sc, some ⟨g2, 0, none⟩, cap2, ?_, ?_⟩, (HPF0.out.then0 HB5.out).trans hfs⟩⟩
        · have := Bk.set hbp 1 (.slice (some ⟨g2, 0, none⟩) (d.C.length + 1) cap2)
          simp only [dval, List.length_append, List.length_cons, List.length_nil]
          exact this
        · exact ⟨hv5.rs, ho5.rd, hv5.sn, hv5.sm, ho5.room, ho5.max⟩
    · simp only [zA, zB, zC]
      refine (if_pos (by kernel_rfl)).mpr ?_
      refine GApp.wp_buildSlice_one 37 _ rfl 79 i1 _ 129 Tryd.underlying37 HJ.out.1 HJ.out.2.1 HJ.out.2.2.1 (by decide) (by decide) (Wri.mk a b).cells.toArray HX2.out rfl ?_
      refine hK.out _ _ (Stand.fr hHeld1 (Fr.alloc (Fr.refl (fun _ => False) _) _) (fun _ _ h => h)) (fun hHeld2 => ?_)
      clear hK K hHeld1
      have HNE : Hid (¬ wy0.heap.size = wd.heap.size) := Lib.hid (Nat.ne_of_gt (Bk.lt HE1.out))
      have HB2 : Hid (Fr0 wd (wy0.alloc (.cells (Wri.mk a b).cells.toArray 79))) := Lib.hid (Fr.then0 HB1.out (Fr.alloc (Fr.refl (fun _ => False) wy0) _))
      have HE2 : Hid (Bk (wy0.alloc (.cells (Wri.mk a b).cells.toArray 79)) wd.heap.size #[] 79) := Lib.hid (Fr.keep (Fr.alloc (Fr.refl (fun _ => False) wy0) _) HE1.out (fun h => h))
      have HN2 : Hid (Bk (wy0.alloc (.cells (Wri.mk a b).cells.toArray 79)) wy0.heap.size (Wri.mk a b).cells.toArray 79) := Lib.hid (Bk.new _ _)
      generalize (wy0.alloc (.cells (Wri.mk a b).cells.toArray 79)) = wy1 at *
      change wpAnyH _ _ _ _ _ 6 #[true, true, true, true, true, false, false, true, true, true, true, false, false, false, false] _ _
      refine wpAnyH_ready (rs := [5]) (by kernel_rfl) (by simp) ?_
      refine AllReadyH.cons rfl (fun K hK => ?_) AllReadyH.nil
      simp only [zA, zB, zC]
      refine (if_pos (by kernel_rfl)).mpr ?_
      have hbp := HB2.out.keep HP0.out (fun h => h)
      have q1 : wy1.cell? ⟨p, 1, none⟩ = some (.slice ca d.C.length cc) := (Bk.cell hbp 1).trans HC1.out
      have hlp : p < wy1.heap.size := Bk.lt hbp
      go_wp2_with fail
      refine hK.out _ _ (hHeld2) (fun hHeld3 => ?_)
      clear hK K hHeld2
      clear q1 hlp hbp
      change wpAnyH _ _ _ _ _ 5 #[true, true, true, true, true, true, false, true, true, true, true, false, false, false, false] _ _
      refine wpAnyH_ready (rs := [6]) (by kernel_rfl) (by simp) ?_
      refine AllReadyH.cons rfl (fun K hK => ?_) AllReadyH.nil
      simp only [zA, zB, zC]
      refine (if_pos (by kernel_rfl)).mpr ?_
      obtain ⟨g, cap, cur, wv, hr5, hg5, ho5, hf5⟩ := run_append_all (P := Tryd.prog) wy1 37 37 i1 _ 136 Tryd.underlying37 HJ.out.1 HJ.out.2.1 HJ.out.2.2.1 HJ.out.2.2.2 ZWC_cells (by decide) (wd.heap.size) HE2.out ca d.C.length cc d.C rfl (RdG.keep HRC0.out HB2.out) (wris_len HOK.out.c) (fun x _ => Wri.one x) (by omega) (by omega)
      have hwge : wd.heap.size ≤ wd.heap.size := HGE0.out
      have hhx : w.heap.size < wd.heap.size := HXL.out
      refine GApp.wp_append_run _ _ 37 rfl _ _ _ rfl rfl hr5 ?_
      refine hK.out _ _ (Stand.fr hHeld3 hf5 (fun r hr => by simp only [List.mem_cons, List.not_mem_nil, or_false] at hr; subst hr; show ¬ w.heap.size = wd.heap.size; omega)) (fun hHeld4 => ?_)
      clear hK K hHeld3
      have HB4 : Hid (Fr0 wd wv) := Lib.hid (Fr.newG HB2.out hf5 hwge)
      have HN4 : Hid (Bk wv wy0.heap.size (Wri.mk a b).cells.toArray 79) := Lib.hid (Fr.keep hf5 HN2.out HNE.out)
      have HO4 := Lib.hid ho5
      have HG4 := Lib.hid hg5
      clear hr5 hf5 ho5
      change wpAnyH _ _ _ _ _ 4 #[true, true, true, true, true, true, true, true, true, true, true, false, false, false, false] _ _
      refine wpAnyH_ready (rs := [11]) (by kernel_rfl) (by simp) ?_
      refine AllReadyH.cons rfl (fun K hK => ?_) AllReadyH.nil
      simp only [zA, zB, zC]
      refine (if_pos (by kernel_rfl)).mpr ?_
      obtain ⟨g2, cap2, cur2, wz, hr6, hg6, ho6, hf6⟩ := GApp.run_append_own1 (P := Tryd.prog) wv 37 37 i1 _ 136 (wd.heap.size) Tryd.underlying37 HJ.out.1 HJ.out.2.1 HJ.out.2.2.1 HJ.out.2.2.2 ZWC_cells (by decide) g cap cur d.C.length d.C rfl HO4.out HG4.out (wris_len HOK.out.c) (wy0.heap.size) 1 ⟨a, b⟩ (Wri.leng HWOK.out) (Wri.one _) HN4.out (by omega) hC
      have hgge : wd.heap.size ≤ g := HG4.out
      refine GApp.wp_append_run _ _ 37 rfl _ _ _ rfl rfl hr6 ?_
      refine hK.out _ _ (Stand.fr hHeld4 hf6 (fun r hr => by simp only [List.mem_cons, List.not_mem_nil, or_false] at hr; subst hr; show ¬ w.heap.size = g; omega)) (fun hHeld5 => ?_)
      clear hK K hHeld4
      have HB5 : Hid (Fr0 wd wz) := Lib.hid (Fr.newG HB4.out hf6 (by omega))
      have HO5 := Lib.hid ho6
      have HG5 := Lib.hid hg6
      clear hr6 hf6 ho6 hg6
      refine tk0 (i := 12) (v := .pointer (some ⟨p, 0, none⟩)) rfl hHeld5 ?_
      simp only [Act.put, zA, zB, zC, zD, zE, zF]
      refine tk0 (i := 13) (v := .pointer (some ⟨p, 1, none⟩)) rfl hHeld5 ?_
      simp only [Act.put, zA, zB, zC, zD, zE, zF]
      change wpAnyH _ _ _ _ _ 1 #[true, true, true, true, true, true, true, true, true, true, true, true, true, true, false] _ _
      refine wpAnyH_ready (rs := [14]) (by kernel_rfl) (by simp) ?_
      refine AllReadyH.cons rfl (fun K hK => ?_) AllReadyH.nil
      simp only [zA, zB, zC]
      refine (if_pos (by kernel_rfl)).mpr ?_
      have hbp := HB5.out.keep HP0.out (fun h => h)
      have q1 : wz.cell? ⟨p, 1, none⟩ = some (.slice ca d.C.length cc) := (Bk.cell hbp 1).trans HC1.out
      have f1 := Bk.free hbp 1
      go_wp2_with fail
      refine hK.out _ _ (Stand.fr hHeld5 (Fr.set1 _ _ _ _) (fun r hr => by simp only [List.mem_cons, List.not_mem_nil, or_false] at hr; subst hr; exact hxp)) (fun hHeld6 => ?_)
      clear hK K hHeld5
      clear q1 f1 hbp
      change wpAnyH _ _ _ _ _ 0 #[true, true, true, true, true, true, true, true, true, true, true, true, true, true, true] _ _
      refine wpAnyH_done (by kernel_rfl) ?_ _
      refine NoPanic.normal ?_
      have HEND := Lib.hid hHeld6
      clear hHeld6
      go_wp2_with fail
      go_ret
      have hgp : g2 ≠ p := by have h2 := HG5.out; have h3 := Bk.lt HP0.out; omega
      have hbp := HB5.out.keep HP0.out (fun h => h)
      have hfs := Fr.set1 wz p 1 (.slice (some ⟨g2, 0, none⟩) (d.C.length + 1) cap2)
      have hv5 := DV.past (d := actD d) (HDV0.out.keep HB5.out) (actD_ok HOK.out) hfs hbp (dval_no _ _ _ _ _)
      have ho5 := OwnG.keep HO5.out hfs hgp
      refine ⟨rfl, ⟨⟨some ⟨sb, so, none⟩, sc, some ⟨g2, 0, none⟩, cap2, ?_, ?_⟩, (HPF0.out.then0 HB5.out).trans hfs⟩⟩
      · have := Bk.set hbp 1 (.slice (some ⟨g2, 0, none⟩) (d.C.length + 1) cap2)
        simp only [dval, List.length_append, List.length_cons, List.length_nil]
        exact this
      · exact ⟨hv5.rs, ho5.rd, hv5.sn, hv5.sm, ho5.room, ho5.max⟩
  · simp only [zA, zB, zC]
    refine (if_pos (by kernel_rfl)).mpr ?_
    have hbp := HB0.out.keep HP0.out (fun h => h)
    have q1 : wd.cell? ⟨p, 1, none⟩ = some (.slice ca d.C.length cc) := (Bk.cell hbp 1).trans HC1.out
    have hlp : p < wd.heap.size := Bk.lt hbp
    go_wp2_with fail
    refine hK.out _ _ (hHeld0) (fun hHeld1 => ?_)
    clear hK K hHeld0
    clear q1 hlp hbp
    change wpAnyH _ _ _ _ _ 7 #[true, false, true, true, true, true, false, true, true, true, false, false, false, false, false] _ _
    refine wpAnyH_ready (rs := [1, 10]) (by kernel_rfl) (by simp) ?_
    refine AllReadyH.cons rfl (fun K hK => ?_) (AllReadyH.cons rfl (fun K hK => ?_) (AllReadyH.nil))
    · simp only [zA, zB, zC]
      refine (if_pos (by kernel_rfl)).mpr ?_
      refine GApp.wp_buildSlice_nil 37 rfl 79 i1 Tryd.underlying37 HJ.out.1 ?_
      refine hK.out _ _ (Stand.fr hHeld1 (Fr.alloc (Fr.refl (fun _ => False) _) _) (fun _ _ h => h)) (fun hHeld2 => ?_)
      clear hK K hHeld1
      have HGE0 : Hid (wd.heap.size ≤ wd.heap.size) := Lib.hid HB0.out.size
      have HB2 : Hid (Fr0 wd (wd.alloc (.cells #[] 79))) := Lib.hid (Fr.then0 HB0.out (Fr.alloc (Fr.refl (fun _ => False) wd) _))
      have HE2 : Hid (Bk (wd.alloc (.cells #[] 79)) wd.heap.size #[] 79) := Lib.hid (Bk.new _ _)
      generalize (wd.alloc (.cells #[] 79)) = wy1 at *
      change wpAnyH _ _ _ _ _ 6 #[true, true, true, true, true, true, false, true, true, true, false, false, false, false, false] _ _
      refine wpAnyH_ready (rs := [6, 10]) (by kernel_rfl) (by simp) ?_
      refine AllReadyH.cons rfl (fun K hK => ?_) (AllReadyH.cons rfl (fun K hK => ?_) (AllReadyH.nil))
      · simp only [zA, zB, zC]
        refine (if_pos (by kernel_rfl)).mpr ?_
        obtain ⟨g, cap, cur, wv, hr5, hg5, ho5, hf5⟩ := run_append_all (P := Tryd.prog) wy1 37 37 i1 _ 136 Tryd.underlying37 HJ.out.1 HJ.out.2.1 HJ.out.2.2.1 HJ.out.2.2.2 ZWC_cells (by decide) (wd.heap.size) HE2.out ca d.C.length cc d.C rfl (RdG.keep HRC0.out HB2.out) (wris_len HOK.out.c) (fun x _ => Wri.one x) (by omega) (by omega)
        have hwge : wd.heap.size ≤ wd.heap.size := HGE0.out
        have hhx : w.heap.size < wd.heap.size := HXL.out
        refine GApp.wp_append_run _ _ 37 rfl _ _ _ rfl rfl hr5 ?_
        refine hK.out _ _ (Stand.fr hHeld2 hf5 (fun r hr => by simp only [List.mem_cons, List.not_mem_nil, or_false] at hr; subst hr; show ¬ w.heap.size = wd.heap.size; omega)) (fun hHeld3 => ?_)
        clear hK K hHeld2
        have HB3 : Hid (Fr0 wd wv) := Lib.hid (Fr.newG HB2.out hf5 hwge)
        have HO3 := Lib.hid ho5
        have HG3 := Lib.hid hg5
        clear hr5 hf5 ho5
        change wpAnyH _ _ _ _ _ 5 #[true, true, true, true, true, true, true, true, true, true, false, false, false, false, false] _ _
        refine wpAnyH_ready (rs := [10]) (by kernel_rfl) (by simp) ?_
        refine AllReadyH.cons rfl (fun K hK => ?_) AllReadyH.nil
        simp only [zA, zB, zC]
        refine (if_pos (by kernel_rfl)).mpr ?_
        refine GApp.wp_buildSlice_one 37 _ rfl 79 i1 _ 129 Tryd.underlying37 HJ.out.1 HJ.out.2.1 HJ.out.2.2.1 (by decide) (by decide) (Wri.mk a b).cells.toArray HX2.out rfl ?_
        refine hK.out _ _ (Stand.fr hHeld3 (Fr.alloc (Fr.refl (fun _ => False) _) _) (fun _ _ h => h)) (fun hHeld4 => ?_)
        clear hK K hHeld3
        have HB4 : Hid (Fr0 wd (wv.alloc (.cells (Wri.mk a b).cells.toArray 79))) := Lib.hid (Fr.then0 HB3.out (Fr.alloc (Fr.refl (fun _ => False) wv) _))
        have HO4 : Hid (OwnW (wv.alloc (.cells (Wri.mk a b).cells.toArray 79)) g cap cur d.C) := Lib.hid (OwnG.keep HO3.out (Fr.alloc (Fr.refl (fun _ => False) wv) _) (fun h => h))
        have HN4 : Hid (Bk (wv.alloc (.cells (Wri.mk a b).cells.toArray 79)) wv.heap.size (Wri.mk a b).cells.toArray 79) := Lib.hid (Bk.new _ _)
        generalize (wv.alloc (.cells (Wri.mk a b).cells.toArray 79)) = wy3 at *
        change wpAnyH _ _ _ _ _ 4 #[true, true, true, true, true, true, true, true, true, true, true, false, false, false, false] _ _
        refine wpAnyH_ready (rs := [11]) (by kernel_rfl) (by simp) ?_
        refine AllReadyH.cons rfl (fun K hK => ?_) AllReadyH.nil
        simp only [zA, zB, zC]
        refine (if_pos (by kernel_rfl)).mpr ?_
        obtain ⟨g2, cap2, cur2, wz, hr6, hg6, ho6, hf6⟩ := GApp.run_append_own1 (P := Tryd.prog) wy3 37 37 i1 _ 136 (wd.heap.size) Tryd.underlying37 HJ.out.1 HJ.out.2.1 HJ.out.2.2.1 HJ.out.2.2.2 ZWC_cells (by decide) g cap cur d.C.length d.C rfl HO4.out HG3.out (wris_len HOK.out.c) (wv.heap.size) 1 ⟨a, b⟩ (Wri.leng HWOK.out) (Wri.one _) HN4.out (by omega) hC
        have hgge : wd.heap.size ≤ g := HG3.out
        refine GApp.wp_append_run _ _ 37 rfl _ _ _ rfl rfl hr6 ?_
        refine hK.out _ _ (Stand.fr hHeld4 hf6 (fun r hr => by simp only [List.mem_cons, List.not_mem_nil, or_false] at hr; subst hr; show ¬ w.heap.size = g; omega)) (fun hHeld5 => ?_)
        clear hK K hHeld4
        have HB5 : Hid (Fr0 wd wz) := Lib.hid (Fr.newG HB4.out hf6 (by omega))
        have HO5 := Lib.hid ho6
        have HG5 := Lib.hid hg6
        clear hr6 hf6 ho6 hg6
        refine tk0 (i := 12) (v := .pointer (some ⟨p, 0, none⟩)) rfl hHeld5 ?_
        simp only [Act.put, zA, zB, zC, zD, zE, zF]
        refine tk0 (i := 13) (v := .pointer (some ⟨p, 1, none⟩)) rfl hHeld5 ?_
        simp only [Act.put, zA, zB, zC, zD, zE, zF]
        change wpAnyH _ _ _ _ _ 1 #[true, true, true, true, true, true, true, true, true, true, true, true, true, true, false] _ _
        refine wpAnyH_ready (rs := [14]) (by kernel_rfl) (by simp) ?_
        refine AllReadyH.cons rfl (fun K hK => ?_) AllReadyH.nil
        simp only [zA, zB, zC]
        refine (if_pos (by kernel_rfl)).mpr ?_
        have hbp := HB5.out.keep HP0.out (fun h => h)
        have q1 : wz.cell? ⟨p, 1, none⟩ = some (.slice ca d.C.length cc) := (Bk.cell hbp 1).trans HC1.out
        have f1 := Bk.free hbp 1
        go_wp2_with fail
        refine hK.out _ _ (Stand.fr hHeld5 (Fr.set1 _ _ _ _) (fun r hr => by simp only [List.mem_cons, List.not_mem_nil, or_false] at hr; subst hr; exact hxp)) (fun hHeld6 => ?_)
        clear hK K hHeld5
        clear q1 f1 hbp
        change wpAnyH _ _ _ _ _ 0 #[true, true, true, true, true, true, true, true, true, true, true, true, true, true, true] _ _
        refine wpAnyH_done (by kernel_rfl) ?_ _
        refine NoPanic.normal ?_
        have HEND := Lib.hid hHeld6
        clear hHeld6
        go_wp2_with fail
        go_ret
        have hgp : g2 ≠ p := by have h2 := HG5.out; have h3 := Bk.lt HP0.out; omega
        have hbp := HB5.out.keep HP0.out (fun h => h)
        have hfs := Fr.set1 wz p 1 (.slice (some ⟨g2, 0, none⟩) (d.C.length + 1) cap2)
        have hv5 := DV.past (d := actD d) (HDV0.out.keep HB5.out) (actD_ok HOK.out) hfs hbp (dval_no _ _ _ _ _)
        have ho5 := OwnG.keep HO5.out hfs hgp
        refine ⟨rfl, ⟨⟨some ⟨sb, so, none⟩, sc, some ⟨g2, 0, none⟩, cap2, ?_, ?_⟩, (HPF0.out.then0 HB5.out).trans hfs⟩⟩
        · have := Bk.set hbp 1 (.slice (some ⟨g2, 0, none⟩) (d.C.length + 1) cap2)
          simp only [dval, List.length_append, List.length_cons, List.length_nil]
          exact this
        · exact ⟨hv5.rs, ho5.rd, hv5.sn, hv5.sm, ho5.room, ho5.max⟩
      · simp only [zA, zB, zC]
        refine (if_pos (by kernel_rfl)).mpr ?_
        refine GApp.wp_buildSlice_one 37 _ rfl 79 i1 _ 129 Tryd.underlying37 HJ.out.1 HJ.out.2.1 HJ.out.2.2.1 (by decide) (by decide) (Wri.mk a b).cells.toArray HX2.out rfl ?_
        refine hK.out _ _ (Stand.fr hHeld2 (Fr.alloc (Fr.refl (fun _ => False) _) _) (fun _ _ h => h)) (fun hHeld3 => ?_)
        clear hK K hHeld2
        have HNE : Hid (¬ wy1.heap.size = wd.heap.size) := Lib.hid (Nat.ne_of_gt (Bk.lt HE2.out))
        have HB3 : Hid (Fr0 wd (wy1.alloc (.cells (Wri.mk a b).cells.toArray 79))) := Lib.hid (Fr.then0 HB2.out (Fr.alloc (Fr.refl (fun _ => False) wy1) _))
        have HE3 : Hid (Bk (wy1.alloc (.cells (Wri.mk a b).cells.toArray 79)) wd.heap.size #[] 79) := Lib.hid (Fr.keep (Fr.alloc (Fr.refl (fun _ => False) wy1) _) HE2.out (fun h => h))
        have HN3 : Hid (Bk (wy1.alloc (.cells (Wri.mk a b).cells.toArray 79)) wy1.heap.size (Wri.mk a b).cells.toArray 79) := Lib.hid (Bk.new _ _)
        generalize (wy1.alloc (.cells (Wri.mk a b).cells.toArray 79)) = wy2 at *
        change wpAnyH _ _ _ _ _ 5 #[true, true, true, true, true, true, false, true, true, true, true, false, false, false, false] _ _
        refine wpAnyH_ready (rs := [6]) (by kernel_rfl) (by simp) ?_
        refine AllReadyH.cons rfl (fun K hK => ?_) AllReadyH.nil
        simp only [zA, zB, zC]
        refine (if_pos (by kernel_rfl)).mpr ?_
        obtain ⟨g, cap, cur, wv, hr5, hg5, ho5, hf5⟩ := run_append_all (P := Tryd.prog) wy2 37 37 i1 _ 136 Tryd.underlying37 HJ.out.1 HJ.out.2.1 HJ.out.2.2.1 HJ.out.2.2.2 ZWC_cells (by decide) (wd.heap.size) HE3.out ca d.C.length cc d.C rfl (RdG.keep HRC0.out HB3.out) (wris_len HOK.out.c) (fun x _ => Wri.one x) (by omega) (by omega)
        have hwge : wd.heap.size ≤ wd.heap.size := HGE0.out
        have hhx : w.heap.size < wd.heap.size := HXL.out
        refine GApp.wp_append_run _ _ 37 rfl _ _ _ rfl rfl hr5 ?_
        refine hK.out _ _ (Stand.fr hHeld3 hf5 (fun r hr => by simp only [List.mem_cons, List.not_mem_nil, or_false] at hr; subst hr; show ¬ w.heap.size = wd.heap.size; omega)) (fun hHeld4 => ?_)
        clear hK K hHeld3
        have HB4 : Hid (Fr0 wd wv) := Lib.hid (Fr.newG HB3.out hf5 hwge)
        have HN4 : Hid (Bk wv wy1.heap.size (Wri.mk a b).cells.toArray 79) := Lib.hid (Fr.keep hf5 HN3.out HNE.out)
        have HO4 := Lib.hid ho5
        have HG4 := Lib.hid hg5
        clear hr5 hf5 ho5
        change wpAnyH _ _ _ _ _ 4 #[true, true, true, true, true, true, true, true, true, true, true, false, false, false, false] _ _
        refine wpAnyH_ready (rs := [11]) (by kernel_rfl) (by simp) ?_
        refine AllReadyH.cons rfl (fun K hK => ?_) AllReadyH.nil
        simp only [zA, zB, zC]
        refine (if_pos (by kernel_rfl)).mpr ?_
        obtain ⟨g2, cap2, cur2, wz, hr6, hg6, ho6, hf6⟩ := GApp.run_append_own1 (P := Tryd.prog) wv 37 37 i1 _ 136 (wd.heap.size) Tryd.underlying37 HJ.out.1 HJ.out.2.1 HJ.out.2.2.1 HJ.out.2.2.2 ZWC_cells (by decide) g cap cur d.C.length d.C rfl HO4.out HG4.out (wris_len HOK.out.c) (wy1.heap.size) 1 ⟨a, b⟩ (Wri.leng HWOK.out) (Wri.one _) HN4.out (by omega) hC
        have hgge : wd.heap.size ≤ g := HG4.out
        refine GApp.wp_append_run _ _ 37 rfl _ _ _ rfl rfl hr6 ?_
        refine hK.out _ _ (Stand.fr hHeld4 hf6 (fun r hr => by simp only [List.mem_cons, List.not_mem_nil, or_false] at hr; subst hr; show ¬ w.heap.size = g; omega)) (fun hHeld5 => ?_)
        clear hK K hHeld4
        have HB5 : Hid (Fr0 wd wz) := Lib.hid (Fr.newG HB4.out hf6 (by omega))
        have HO5 := Lib.hid ho6
        have HG5 := Lib.hid hg6
        clear hr6 hf6 ho6 hg6
        refine tk0 (i := 12) (v := .pointer (some ⟨p, 0, none⟩)) rfl hHeld5 ?_
        simp only [Act.put, zA, zB, zC, zD, zE, zF]
        refine tk0 (i := 13) (v := .pointer (some ⟨p, 1, none⟩)) rfl hHeld5 ?_
        simp only [Act.put, zA, zB, zC, zD, zE, zF]
        change wpAnyH _ _ _ _ _ 1 #[true, true, true, true, true, true, true, true, true, true, true, true, true, true, false] _ _
        refine wpAnyH_ready (rs := [14]) (by kernel_rfl) (by simp) ?_
        refine AllReadyH.cons rfl (fun K hK => ?_) AllReadyH.nil
        simp only [zA, zB, zC]
        refine (if_pos (by kernel_rfl)).mpr ?_
        have hbp := HB5.out.keep HP0.out (fun h => h)
        have q1 : wz.cell? ⟨p, 1, none⟩ = some (.slice ca d.C.length cc) := (Bk.cell hbp 1).trans HC1.out
        have f1 := Bk.free hbp 1
        go_wp2_with fail
        refine hK.out _ _ (Stand.fr hHeld5 (Fr.set1 _ _ _ _) (fun r hr => by simp only [List.mem_cons, List.not_mem_nil, or_false] at hr; subst hr; exact hxp)) (fun hHeld6 => ?_)
        clear hK K hHeld5
        clear q1 f1 hbp
        change wpAnyH _ _ _ _ _ 0 #[true, true, true, true, true, true, true, true, true, true, true, true, true, true, true] _ _
        refine wpAnyH_done (by kernel_rfl) ?_ _
        refine NoPanic.normal ?_
        have HEND := Lib.hid hHeld6
        clear hHeld6
        go_wp2_with fail
        go_ret
        have hgp : g2 ≠ p := by have h2 := HG5.out; have h3 := Bk.lt HP0.out; omega
        have hbp := HB5.out.keep HP0.out (fun h => h)
        have hfs := Fr.set1 wz p 1 (.slice (some ⟨g2, 0, none⟩) (d.C.length + 1) cap2)
        have hv5 := DV.past (d := actD d) (HDV0.out.keep HB5.out) (actD_ok HOK.out) hfs hbp (dval_no _ _ _ _ _)
        have ho5 := OwnG.keep HO5.out hfs hgp
        refine ⟨rfl, ⟨⟨some ⟨sb, so, none⟩, sc, some ⟨g2, 0, none⟩, cap2, ?_, ?_⟩, (HPF0.out.then0 HB5.out).trans hfs⟩⟩
        · have := Bk.set hbp 1 (.slice (some ⟨g2, 0, none⟩) (d.C.length + 1) cap2)
          simp only [dval, List.length_append, List.length_cons, List.length_nil]
          exact this
        · exact ⟨hv5.rs, ho5.rd, hv5.sn, hv5.sm, ho5.room, ho5.max⟩
    · simp only [zA, zB, zC]
      refine (if_pos (by kernel_rfl)).mpr ?_
      refine GApp.wp_buildSlice_one 37 _ rfl 79 i1 _ 129 Tryd.underlying37 HJ.out.1 HJ.out.2.1 HJ.out.2.2.1 (by decide) (by decide) (Wri.mk a b).cells.toArray HX2.out rfl ?_
      refine hK.out _ _ (Stand.fr hHeld1 (Fr.alloc (Fr.refl (fun _ => False) _) _) (fun _ _ h => h)) (fun hHeld2 => ?_)
      clear hK K hHeld1
      have HB2 : Hid (Fr0 wd (wd.alloc (.cells (Wri.mk a b).cells.toArray 79))) := Lib.hid (Fr.then0 HB0.out (Fr.alloc (Fr.refl (fun _ => False) wd) _))
      have HN2 : Hid (Bk (wd.alloc (.cells (Wri.mk a b).cells.toArray 79)) wd.heap.size (Wri.mk a b).cells.toArray 79) := Lib.hid (Bk.new _ _)
      generalize (wd.alloc (.cells (Wri.mk a b).cells.toArray 79)) = wy1 at *
      change wpAnyH _ _ _ _ _ 6 #[true, false, true, true, true, true, false, true, true, true, true, false, false, false, false] _ _
      refine wpAnyH_ready (rs := [1]) (by kernel_rfl) (by simp) ?_
      refine AllReadyH.cons rfl (fun K hK => ?_) AllReadyH.nil
      simp only [zA, zB, zC]
      refine (if_pos (by kernel_rfl)).mpr ?_
      refine GApp.wp_buildSlice_nil 37 rfl 79 i1 Tryd.underlying37 HJ.out.1 ?_
      refine hK.out _ _ (Stand.fr hHeld2 (Fr.alloc (Fr.refl (fun _ => False) _) _) (fun _ _ h => h)) (fun hHeld3 => ?_)
      clear hK K hHeld2
      have HGE0 : Hid (wd.heap.size ≤ wy1.heap.size) := Lib.hid HB2.out.size
      have HNE : Hid (¬ wd.heap.size = wy1.heap.size) := Lib.hid (Nat.ne_of_lt (Bk.lt HN2.out))
      have HB3 : Hid (Fr0 wd (wy1.alloc (.cells #[] 79))) := Lib.hid (Fr.then0 HB2.out (Fr.alloc (Fr.refl (fun _ => False) wy1) _))
      have HN3 : Hid (Bk (wy1.alloc (.cells #[] 79)) wd.heap.size (Wri.mk a b).cells.toArray 79) := Lib.hid (Fr.keep (Fr.alloc (Fr.refl (fun _ => False) wy1) _) HN2.out (fun h => h))
      have HE3 : Hid (Bk (wy1.alloc (.cells #[] 79)) wy1.heap.size #[] 79) := Lib.hid (Bk.new _ _)
      generalize (wy1.alloc (.cells #[] 79)) = wy2 at *
      change wpAnyH _ _ _ _ _ 5 #[true, true, true, true, true, true, false, true, true, true, true, false, false, false, false] _ _
      refine wpAnyH_ready (rs := [6]) (by kernel_rfl) (by simp) ?_
      refine AllReadyH.cons rfl (fun K hK => ?_) AllReadyH.nil
      simp only [zA, zB, zC]
      refine (if_pos (by kernel_rfl)).mpr ?_
      obtain ⟨g, cap, cur, wv, hr5, hg5, ho5, hf5⟩ := run_append_all (P := Tryd.prog) wy2 37 37 i1 _ 136 Tryd.underlying37 HJ.out.1 HJ.out.2.1 HJ.out.2.2.1 HJ.out.2.2.2 ZWC_cells (by decide) (wy1.heap.size) HE3.out ca d.C.length cc d.C rfl (RdG.keep HRC0.out HB3.out) (wris_len HOK.out.c) (fun x _ => Wri.one x) (by omega) (by omega)
      have hwge : wd.heap.size ≤ wy1.heap.size := HGE0.out
      have hhx : w.heap.size < wd.heap.size := HXL.out
      refine GApp.wp_append_run _ _ 37 rfl _ _ _ rfl rfl hr5 ?_
      refine hK.out _ _ (Stand.fr hHeld3 hf5 (fun r hr => by simp only [List.mem_cons, List.not_mem_nil, or_false] at hr; subst hr; show ¬ w.heap.size = wy1.heap.size; omega)) (fun hHeld4 => ?_)
      clear hK K hHeld3
      have HB4 : Hid (Fr0 wd wv) := Lib.hid (Fr.newG HB3.out hf5 hwge)
      have HN4 : Hid (Bk wv wd.heap.size (Wri.mk a b).cells.toArray 79) := Lib.hid (Fr.keep hf5 HN3.out HNE.out)
      have HO4 := Lib.hid ho5
      have HG4 := Lib.hid hg5
      clear hr5 hf5 ho5
      change wpAnyH _ _ _ _ _ 4 #[true, true, true, true, true, true, true, true, true, true, true, false, false, false, false] _ _
      refine wpAnyH_ready (rs := [11]) (by kernel_rfl) (by simp) ?_
      refine AllReadyH.cons rfl (fun K hK => ?_) AllReadyH.nil
      simp only [zA, zB, zC]
      refine (if_pos (by kernel_rfl)).mpr ?_
      obtain ⟨g2, cap2, cur2, wz, hr6, hg6, ho6, hf6⟩ := GApp.run_append_own1 (P := Tryd.prog) wv 37 37 i1 _ 136 (wy1.heap.size) Tryd.underlying37 HJ.out.1 HJ.out.2.1 HJ.out.2.2.1 HJ.out.2.2.2 ZWC_cells (by decide) g cap cur d.C.length d.C rfl HO4.out HG4.out (wris_len HOK.out.c) (wd.heap.size) 1 ⟨a, b⟩ (Wri.leng HWOK.out) (Wri.one _) HN4.out (by omega) hC
      have hgge : wy1.heap.size ≤ g := HG4.out
      refine GApp.wp_append_run _ _ 37 rfl _ _ _ rfl rfl hr6 ?_
      refine hK.out _ _ (Stand.fr hHeld4 hf6 (fun r hr => by simp only [List.mem_cons, List.not_mem_nil, or_false] at hr; subst hr; show ¬ w.heap.size = g; omega)) (fun hHeld5 => ?_)
      clear hK K hHeld4
      have HB5 : Hid (Fr0 wd wz) := Lib.hid (Fr.newG HB4.out hf6 (by omega))
      have HO5 := Lib.hid ho6
      have HG5 := Lib.hid hg6
      clear hr6 hf6 ho6 hg6
      refine tk0 (i := 12) (v := .pointer (some ⟨p, 0, none⟩)) rfl hHeld5 ?_
      simp only [Act.put, zA, zB, zC, zD, zE, zF]
      refine tk0 (i := 13) (v := .pointer (some ⟨p, 1, none⟩)) rfl hHeld5 ?_
      simp only [Act.put, zA, zB, zC, zD, zE, zF]
      change wpAnyH _ _ _ _ _ 1 #[true, true, true, true, true, true, true, true, true, true, true, true, true, true, false] _ _
      refine wpAnyH_ready (rs := [14]) (by kernel_rfl) (by simp) ?_
      refine AllReadyH.cons rfl (fun K hK => ?_) AllReadyH.nil
      simp only [zA, zB, zC]
      refine (if_pos (by kernel_rfl)).mpr ?_
      have hbp := HB5.out.keep HP0.out (fun h => h)
      have q1 : wz.cell? ⟨p, 1, none⟩ = some (.slice ca d.C.length cc) := (Bk.cell hbp 1).trans HC1.out
      have f1 := Bk.free hbp 1
      go_wp2_with fail
      refine hK.out _ _ (Stand.fr hHeld5 (Fr.set1 _ _ _ _) (fun r hr => by simp only [List.mem_cons, List.not_mem_nil, or_false] at hr; subst hr; exact hxp)) (fun hHeld6 => ?_)
      clear hK K hHeld5
      clear q1 f1 hbp
      change wpAnyH _ _ _ _ _ 0 #[true, true, true, true, true, true, true, true, true, true, true, true, true, true, true] _ _
      refine wpAnyH_done (by kernel_rfl) ?_ _
      refine NoPanic.normal ?_
      have HEND := Lib.hid hHeld6
      clear hHeld6
      go_wp2_with fail
      go_ret
      have hgp : g2 ≠ p := by have h2 := HG5.out; have h3 := Bk.lt HP0.out; omega
      have hbp := HB5.out.keep HP0.out (fun h => h)
      have hfs := Fr.set1 wz p 1 (.slice (some ⟨g2, 0, none⟩) (d.C.length + 1) cap2)
      have hv5 := DV.past (d := actD d) (HDV0.out.keep HB5.out) (actD_ok HOK.out) hfs hbp (dval_no _ _ _ _ _)
      have ho5 := OwnG.keep HO5.out hfs hgp
      refine ⟨rfl, ⟨⟨some ⟨sb, so, none⟩, sc, some ⟨g2, 0, none⟩, cap2, ?_, ?_⟩, (HPF0.out.then0 HB5.out).trans hfs⟩⟩
      · have := Bk.set hbp 1 (.slice (some ⟨g2, 0, none⟩) (d.C.length + 1) cap2)
        simp only [dval, List.length_append, List.length_cons, List.length_nil]
        exact this
      · exact ⟨hv5.rs, ho5.rd, hv5.sn, hv5.sm, ho5.room, ho5.max⟩
  · simp only [zA, zB, zC]
    refine (if_pos (by kernel_rfl)).mpr ?_
    refine GApp.wp_buildSlice_one 37 _ rfl 79 i1 _ 129 Tryd.underlying37 HJ.out.1 HJ.out.2.1 HJ.out.2.2.1 (by decide) (by decide) (Wri.mk a b).cells.toArray HX2.out rfl ?_
    refine hK.out _ _ (Stand.fr hHeld0 (Fr.alloc (Fr.refl (fun _ => False) _) _) (fun _ _ h => h)) (fun hHeld1 => ?_)
    clear hK K hHeld0
    have HB1 : Hid (Fr0 wd (wd.alloc (.cells (Wri.mk a b).cells.toArray 79))) := Lib.hid (Fr.then0 HB0.out (Fr.alloc (Fr.refl (fun _ => False) wd) _))
    have HN1 : Hid (Bk (wd.alloc (.cells (Wri.mk a b).cells.toArray 79)) wd.heap.size (Wri.mk a b).cells.toArray 79) := Lib.hid (Bk.new _ _)
    generalize (wd.alloc (.cells (Wri.mk a b).cells.toArray 79)) = wy0 at *
    change wpAnyH _ _ _ _ _ 7 #[true, false, true, true, true, false, false, true, true, true, true, false, false, false, false] _ _
    refine wpAnyH_ready (rs := [1, 5]) (by kernel_rfl) (by simp) ?_
    refine AllReadyH.cons rfl (fun K hK => ?_) (AllReadyH.cons rfl (fun K hK => ?_) (AllReadyH.nil))
    · simp only [zA, zB, zC]
      refine (if_pos (by kernel_rfl)).mpr ?_
      refine GApp.wp_buildSlice_nil 37 rfl 79 i1 Tryd.underlying37 HJ.out.1 ?_
      refine hK.out _ _ (Stand.fr hHeld1 (Fr.alloc (Fr.refl (fun _ => False) _) _) (fun _ _ h => h)) (fun hHeld2 => ?_)
      clear hK K hHeld1
      have HGE0 : Hid (wd.heap.size ≤ wy0.heap.size) := Lib.hid HB1.out.size
      have HNE : Hid (¬ wd.heap.size = wy0.heap.size) := Lib.hid (Nat.ne_of_lt (Bk.lt HN1.out))
      have HB2 : Hid (Fr0 wd (wy0.alloc (.cells #[] 79))) := Lib.hid (Fr.then0 HB1.out (Fr.alloc (Fr.refl (fun _ => False) wy0) _))
      have HN2 : Hid (Bk (wy0.alloc (.cells #[] 79)) wd.heap.size (Wri.mk a b).cells.toArray 79) := Lib.hid (Fr.keep (Fr.alloc (Fr.refl (fun _ => False) wy0) _) HN1.out (fun h => h))
      have HE2 : Hid (Bk (wy0.alloc (.cells #[] 79)) wy0.heap.size #[] 79) := Lib.hid (Bk.new _ _)
      generalize (wy0.alloc (.cells #[] 79)) = wy1 at *
      change wpAnyH _ _ _ _ _ 6 #[true, true, true, true, true, false, false, true, true, true, true, false, false, false, false] _ _
      refine wpAnyH_ready (rs := [5]) (by kernel_rfl) (by simp) ?_
      refine AllReadyH.cons rfl (fun K hK => ?_) AllReadyH.nil
      simp only [zA, zB, zC]
      refine (if_pos (by kernel_rfl)).mpr ?_
      have hbp := HB2.out.keep HP0.out (fun h => h)
      have q1 : wy1.cell? ⟨p, 1, none⟩ = some (.slice ca d.C.length cc) := (Bk.cell hbp 1).trans HC1.out
      have hlp : p < wy1.heap.size := Bk.lt hbp
      go_wp2_with fail
      refine hK.out _ _ (hHeld2) (fun hHeld3 => ?_)
      clear hK K hHeld2
      clear q1 hlp hbp
      change wpAnyH _ _ _ _ _ 5 #[true, true, true, true, true, true, false, true, true, true, true, false, false, false, false] _ _
      refine wpAnyH_ready (rs := [6]) (by kernel_rfl) (by simp) ?_
      refine AllReadyH.cons rfl (fun K hK => ?_) AllReadyH.nil
      simp only [zA, zB, zC]
      refine (if_pos (by kernel_rfl)).mpr ?_
      obtain ⟨g, cap, cur, wv, hr5, hg5, ho5, hf5⟩ := run_append_all (P := Tryd.prog) wy1 37 37 i1 _ 136 Tryd.underlying37 HJ.out.1 HJ.out.2.1 HJ.out.2.2.1 HJ.out.2.2.2 ZWC_cells (by decide) (wy0.heap.size) HE2.out ca d.C.length cc d.C rfl (RdG.keep HRC0.out HB2.out) (wris_len HOK.out.c) (fun x _ => Wri.one x) (by omega) (by omega)
      have hwge : wd.heap.size ≤ wy0.heap.size := HGE0.out
      have hhx : w.heap.size < wd.heap.size := HXL.out
      refine GApp.wp_append_run _ _ 37 rfl _ _ _ rfl rfl hr5 ?_
      refine hK.out _ _ (Stand.fr hHeld3 hf5 (fun r hr => by simp only [List.mem_cons, List.not_mem_nil, or_false] at hr; subst hr; show ¬ w.heap.size = wy0.heap.size; omega)) (fun hHeld4 => ?_)
      clear hK K hHeld3
      have HB4 : Hid (Fr0 wd wv) := Lib.hid (Fr.newG HB2.out hf5 hwge)
      have HN4 : Hid (Bk wv wd.heap.size (Wri.mk a b).cells.toArray 79) := Lib.hid (Fr.keep hf5 HN2.out HNE.out)
      have HO4 := Lib.hid ho5
      have HG4 := Lib.hid hg5
      clear hr5 hf5 ho5
      change wpAnyH _ _ _ _ _ 4 #[true, true, true, true, true, true, true, true, true, true, true, false, false, false, false] _ _
      refine wpAnyH_ready (rs := [11]) (by kernel_rfl) (by simp) ?_
      refine AllReadyH.cons rfl (fun K hK => ?_) AllReadyH.nil
      simp only [zA, zB, zC]
      refine (if_pos (by kernel_rfl)).mpr ?_
      obtain ⟨g2, cap2, cur2, wz, hr6, hg6, ho6, hf6⟩ := GApp.run_append_own1 (P := Tryd.prog) wv 37 37 i1 _ 136 (wy0.heap.size) Tryd.underlying37 HJ.out.1 HJ.out.2.1 HJ.out.2.2.1 HJ.out.2.2.2 ZWC_cells (by decide) g cap cur d.C.length d.C rfl HO4.out HG4.out (wris_len HOK.out.c) (wd.heap.size) 1 ⟨a, b⟩ (Wri.leng HWOK.out) (Wri.one _) HN4.out (by omega) hC
      have hgge : wy0.heap.size ≤ g := HG4.out
      refine GApp.wp_append_run _ _ 37 rfl _ _ _ rfl rfl hr6 ?_
      refine hK.out _ _ (Stand.fr hHeld4 hf6 (fun r hr => by simp only [List.mem_cons, List.not_mem_nil, or_false] at hr; subst hr; show ¬ w.heap.size = g; omega)) (fun hHeld5 => ?_)
      clear hK K hHeld4
      have HB5 : Hid (Fr0 wd wz) := Lib.hid (Fr.newG HB4.out hf6 (by omega))
      have HO5 := Lib.hid ho6
      have HG5 := Lib.hid hg6
      clear hr6 hf6 ho6 hg6
      refine tk0 (i := 12) (v := .pointer (some ⟨p, 0, none⟩)) rfl hHeld5 ?_
      simp only [Act.put, zA, zB, zC, zD, zE, zF]
      refine tk0 (i := 13) (v := .pointer (some ⟨p, 1, none⟩)) rfl hHeld5 ?_
      simp only [Act.put, zA, zB, zC, zD, zE, zF]
      change wpAnyH _ _ _ _ _ 1 #[true, true, true, true, true, true, true, true, true, true, true, true, true, true, false] _ _
      refine wpAnyH_ready (rs := [14]) (by kernel_rfl) (by simp) ?_
      refine AllReadyH.cons rfl (fun K hK => ?_) AllReadyH.nil
      simp only [zA, zB, zC]
      refine (if_pos (by kernel_rfl)).mpr ?_
      have hbp := HB5.out.keep HP0.out (fun h => h)
      have q1 : wz.cell? ⟨p, 1, none⟩ = some (.slice ca d.C.length cc) := (Bk.cell hbp 1).trans HC1.out
      have f1 := Bk.free hbp 1
      go_wp2_with fail
      refine hK.out _ _ (Stand.fr hHeld5 (Fr.set1 _ _ _ _) (fun r hr => by simp only [List.mem_cons, List.not_mem_nil, or_false] at hr; subst hr; exact hxp)) (fun hHeld6 => ?_)
      clear hK K hHeld5
      clear q1 f1 hbp
      change wpAnyH _ _ _ _ _ 0 #[true, true, true, true, true, true, true, true, true, true, true, true, true, true, true] _ _
      refine wpAnyH_done (by kernel_rfl) ?_ _
      refine NoPanic.normal ?_
      have HEND := Lib.hid hHeld6
      clear hHeld6
      go_wp2_with fail
      go_ret
      have hgp : g2 ≠ p := by have h2 := HG5.out; have h3 := Bk.lt HP0.out; omega
      have hbp := HB5.out.keep HP0.out (fun h => h)
      have hfs := Fr.set1 wz p 1 (.slice (some ⟨g2, 0, none⟩) (d.C.length + 1) cap2)
      have hv5 := DV.past (d := actD d) (HDV0.out.keep HB5.out) (actD_ok HOK.out) hfs hbp (dval_no _ _ _ _ _)
      have ho5 := OwnG.keep HO5.out hfs hgp
      refine ⟨rfl, ⟨⟨some ⟨sb, so, none⟩, sc, some ⟨g2, 0, none⟩, cap2, ?_, ?_⟩, (HPF0.out.then0 HB5.out).trans hfs⟩⟩
      · have := Bk.set hbp 1 (.slice (some ⟨g2, 0, none⟩) (d.C.length + 1) cap2)
        simp only [dval, List.length_append, List.length_cons, List.length_nil]
        exact this
      · exact ⟨hv5.rs, ho5.rd, hv5.sn, hv5.sm, ho5.room, ho5.max⟩
    · simp only [zA, zB, zC]
      refine (if_pos (by kernel_rfl)).mpr ?_
      have hbp := HB1.out.keep HP0.out (fun h => h)
      have q1 : wy0.cell? ⟨p, 1, none⟩ = some (.slice ca d.C.length cc) := (Bk.cell hbp 1).trans HC1.out
      have hlp : p < wy0.heap.size := Bk.lt hbp
      go_wp2_with fail
      refine hK.out _ _ (hHeld1) (fun hHeld2 => ?_)
      clear hK K hHeld1
      clear q1 hlp hbp
      change wpAnyH _ _ _ _ _ 6 #[true, false, true, true, true, true, false, true, true, true, true, false, false, false, false] _ _
      refine wpAnyH_ready (rs := [1]) (by kernel_rfl) (by simp) ?_
      refine AllReadyH.cons rfl (fun K hK => ?_) AllReadyH.nil
      simp only [zA, zB, zC]
      refine (if_pos (by kernel_rfl)).mpr ?_
      refine GApp.wp_buildSlice_nil 37 rfl 79 i1 Tryd.underlying37 HJ.out.1 ?_
      refine hK.out _ _ (Stand.fr hHeld2 (Fr.alloc (Fr.refl (fun _ => False) _) _) (fun _ _ h => h)) (fun hHeld3 => ?_)
      clear hK K hHeld2
      have HGE0 : Hid (wd.heap.size ≤ wy0.heap.size) := Lib.hid HB1.out.size
      have HNE : Hid (¬ wd.heap.size = wy0.heap.size) := Lib.hid (Nat.ne_of_lt (Bk.lt HN1.out))
      have HB3 : Hid (Fr0 wd (wy0.alloc (.cells #[] 79))) := Lib.hid (Fr.then0 HB1.out (Fr.alloc (Fr.refl (fun _ => False) wy0) _))
      have HN3 : Hid (Bk (wy0.alloc (.cells #[] 79)) wd.heap.size (Wri.mk a b).cells.toArray 79) := Lib.hid (Fr.keep (Fr.alloc (Fr.refl (fun _ => False) wy0) _) HN1.out (fun h => h))
      have HE3 : Hid (Bk (wy0.alloc (.cells #[] 79)) wy0.heap.size #[] 79) := Lib.hid (Bk.new _ _)
      generalize (wy0.alloc (.cells #[] 79)) = wy2 at *
      change wpAnyH _ _ _ _ _ 5 #[true, true, true, true, true, true, false, true, true, true, true, false, false, false, false] _ _
      refine wpAnyH_ready (rs := [6]) (by kernel_rfl) (by simp) ?_
      refine AllReadyH.cons rfl (fun K hK => ?_) AllReadyH.nil
      simp only [zA, zB, zC]
      refine (if_pos (by kernel_rfl)).mpr ?_
      obtain ⟨g, cap, cur, wv, hr5, hg5, ho5, hf5⟩ := run_append_all (P := Tryd.prog) wy2 37 37 i1 _ 136 Tryd.underlying37 HJ.out.1 HJ.out.2.1 HJ.out.2.2.1 HJ.out.2.2.2 ZWC_cells (by decide) (wy0.heap.size) HE3.out ca d.C.length cc d.C rfl (RdG.keep HRC0.out HB3.out) (wris_len HOK.out.c) (fun x _ => Wri.one x) (by omega) (by omega)
      have hwge : wd.heap.size ≤ wy0.heap.size := HGE0.out
      have hhx : w.heap.size < wd.heap.size := HXL.out
      refine GApp.wp_append_run _ _ 37 rfl _ _ _ rfl rfl hr5 ?_
      refine hK.out _ _ (Stand.fr hHeld3 hf5 (fun r hr => by simp only [List.mem_cons, List.not_mem_nil, or_false] at hr; subst hr; show ¬ w.heap.size = wy0.heap.size; omega)) (fun hHeld4 => ?_)
      clear hK K hHeld3
      have HB4 : Hid (Fr0 wd wv) := Lib.hid (Fr.newG HB3.out hf5 hwge)
      have HN4 : Hid (Bk wv wd.heap.size (Wri.mk a b).cells.toArray 79) := Lib.hid (Fr.keep hf5 HN3.out HNE.out)
      have HO4 := Lib.hid ho5
      have HG4 := Lib.hid hg5
      clear hr5 hf5 ho5
      change wpAnyH _ _ _ _ _ 4 #[true, true, true, true, true, true, true, true, true, true, true, false, false, false, false] _ _
      refine wpAnyH_ready (rs := [11]) (by kernel_rfl) (by simp) ?_
      refine AllReadyH.cons rfl (fun K hK => ?_) AllReadyH.nil
      simp only [zA, zB, zC]
      refine (if_pos (by kernel_rfl)).mpr ?_
      obtain ⟨g2, cap2, cur2, wz, hr6, hg6, ho6, hf6⟩ := GApp.run_append_own1 (P := Tryd.prog) wv 37 37 i1 _ 136 (wy0.heap.size) Tryd.underlying37 HJ.out.1 HJ.out.2.1 HJ.out.2.2.1 HJ.out.2.2.2 ZWC_cells (by decide) g cap cur d.C.length d.C rfl HO4.out HG4.out (wris_len HOK.out.c) (wd.heap.size) 1 ⟨a, b⟩ (Wri.leng HWOK.out) (Wri.one _) HN4.out (by omega) hC
      have hgge : wy0.heap.size ≤ g := HG4.out
      refine GApp.wp_append_run _ _ 37 rfl _ _ _ rfl rfl hr6 ?_
      refine hK.out _ _ (Stand.fr hHeld4 hf6 (fun r hr => by simp only [List.mem_cons, List.not_mem_nil, or_false] at hr; subst hr; show ¬ w.heap.size = g; omega)) (fun hHeld5 => ?_)
      clear hK K hHeld4
      have HB5 : Hid (Fr0 wd wz) := Lib.hid (Fr.newG HB4.out hf6 (by omega))
      have HO5 := Lib.hid ho6
      have HG5 := Lib.hid hg6
      clear hr6 hf6 ho6 hg6
      refine tk0 (i := 12) (v := .pointer (some ⟨p, 0, none⟩)) rfl hHeld5 ?_
      simp only [Act.put, zA, zB, zC, zD, zE, zF]
      refine tk0 (i := 13) (v := .pointer (some ⟨p, 1, none⟩)) rfl hHeld5 ?_
      simp only [Act.put, zA, zB, zC, zD, zE, zF]
      change wpAnyH _ _ _ _ _ 1 #[true, true, true, true, true, true, true, true, true, true, true, true, true, true, false] _ _
      refine wpAnyH_ready (rs := [14]) (by kernel_rfl) (by simp) ?_
      refine AllReadyH.cons rfl (fun K hK => ?_) AllReadyH.nil
      simp only [zA, zB, zC]
      refine (if_pos (by kernel_rfl)).mpr ?_
      have hbp := HB5.out.keep HP0.out (fun h => h)
      have q1 : wz.cell? ⟨p, 1, none⟩ = some (.slice ca d.C.length cc) := (Bk.cell hbp 1).trans HC1.out
      have f1 := Bk.free hbp 1
      go_wp2_with fail
      refine hK.out _ _ (Stand.fr hHeld5 (Fr.set1 _ _ _ _) (fun r hr => by simp only [List.mem_cons, List.not_mem_nil, or_false] at hr; subst hr; exact hxp)) (fun hHeld6 => ?_)
      clear hK K hHeld5
      clear q1 f1 hbp
      change wpAnyH _ _ _ _ _ 0 #[true, true, true, true, true, true, true, true, true, true, true, true, true, true, true] _ _
      refine wpAnyH_done (by kernel_rfl) ?_ _
      refine NoPanic.normal ?_
      have HEND := Lib.hid hHeld6
      clear hHeld6
      go_wp2_with fail
      go_ret
      have hgp : g2 ≠ p := by have h2 := HG5.out; have h3 := Bk.lt HP0.out; omega
      have hbp := HB5.out.keep HP0.out (fun h => h)
      have hfs := Fr.set1 wz p 1 (.slice (some ⟨g2, 0, none⟩) (d.C.length + 1) cap2)
      have hv5 := DV.past (d := actD d) (HDV0.out.keep HB5.out) (actD_ok HOK.out) hfs hbp (dval_no _ _ _ _ _)
      have ho5 := OwnG.keep HO5.out hfs hgp
      refine ⟨rfl, ⟨⟨some ⟨sb, so, none⟩, sc, some ⟨g2, 0, none⟩, cap2, ?_, ?_⟩, (HPF0.out.then0 HB5.out).trans hfs⟩⟩
      · have := Bk.set hbp 1 (.slice (some ⟨g2, 0, none⟩) (d.C.length + 1) cap2)
        simp only [dval, List.length_append, List.length_cons, List.length_nil]
        exact this
      · exact ⟨hv5.rs, ho5.rd, hv5.sn, hv5.sm, ho5.room, ho5.max⟩

/-- WRITE: what the reference's Write does. -/
theorem rwrite_calls (p : Nat) (a : Int) (b : List UInt8) (d : Dk) (sa : Option Addr) (sc : Nat) (ca : Option Addr) (cc : Nat) (w : World) (hok : d.ok) (hv : DAt w p d sa sc ca cc) (hb : b.length = 128) (hC : (d.C.length + 1) * 136 ≤ 140737488355328) (hwa : (Lit.int .i64 a).wf = true) : Calls Tryd.prog 51 #[.pointer (some ⟨p, 0, none⟩), .int .i64 a, .agg (b.map B).toArray] w fun e w' => e = .returned (.int .i64 (writeE d a)) ∧ Now w w' p (writeD d a b) := by
  unfold writeE writeD
  cases hr : rightB d a with
  | false =>
    rw [if_pos rfl, if_pos rfl]
    cases hf : formedB d with
    | false => exact rwrite_unf p a b d sa sc ca cc w hok hv hb hf
    | true =>
      rw [rightB, hf, Bool.and_true] at hr
      exact rwrite_out p a b d sa sc ca cc w hok hv hb hf hr
  | true =>
    simp only [if_neg (show ¬ (true = false) by simp)]
    rcases actE_cases d with ha | ha
    · rw [if_pos ha, if_pos ha]; exact rwrite_down p a b d sa sc ca cc w hok hv hb hr ha
    · have h3 : ¬ actE d = 3 := by omega
      rw [if_neg h3, if_neg h3]
      cases hn : (secAt d a).nw with
      | true => rw [if_pos rfl, if_pos rfl]; exact rwrite_nw p a b d sa sc ca cc w hok hv hb hr ha hn
      | false => rw [if_neg (by simp), if_neg (by simp)]; exact rwrite_yes p a b d sa sc ca cc w hok hv hb hC hwa hr ha hn

end Go.Proofs.YtlleandelcjhjaaDoor.DiskRWrite
