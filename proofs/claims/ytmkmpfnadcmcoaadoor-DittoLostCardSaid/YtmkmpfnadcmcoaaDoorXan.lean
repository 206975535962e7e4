/- The theorems that the claim uses, text behind text (part 14). -/
import Derived.Test.YtmkmpfnadcmcoaaDoorXac
import Derived.Test.YtmkmpfnadcmcoaaDoorXal
import Derived.Test.YtmkmpfnadcmcoaaDoorXam
set_option maxRecDepth 100000
set_option linter.unusedVariables false
set_option linter.unusedSimpArgs false
namespace Go.Proofs.YtmkmpfnadcmcoaaDoor.RmSpare
open Go Go.RowKit Go.Proofs.YtmkmpfnadcmcoaaDoor.K Go.Proofs.YtmkmpfnadcmcoaaDoor.EqKit Go.Proofs.YtmkmpfnadcmcoaaDoor.ArrKit Go.Proofs.YtmkmpfnadcmcoaaDoor.HeldKit Go.Proofs.YtmkmpfnadcmcoaaDoor.GKit Go.Proofs.YtmkmpfnadcmcoaaDoor.GRow Go.Proofs.YtmkmpfnadcmcoaaDoor.DiskKit Go.Proofs.YtmkmpfnadcmcoaaDoor.RmKit Go.Proofs.YtmkmpfnadcmcoaaDoor.MapKit Go.Proofs.YtmkmpfnadcmcoaaDoor.RmRight Go.Proofs.YtmkmpfnadcmcoaaDoor.RmTab Go.Proofs.YtmkmpfnadcmcoaaDoor.RmPut Go.Proofs.YtmkmpfnadcmcoaaDoor.RmAsk Go.Proofs.YtmkmpfnadcmcoaaDoor.RmSame Go.Proofs.YtmkmpfnadcmcoaaDoor.DiskRRead Go.Proofs.YtmkmpfnadcmcoaaDoor.RmRead Go.Proofs.YtmkmpfnadcmcoaaDoor.RmReads Go.Proofs.YtmkmpfnadcmcoaaDoor.DiskAct
theorem RV.past {w w1 : World} {m : Rm} {a : Option Addr} {c p : Nat} (h : RV w m a c) (f : Fr (fun i => i = p) w w1) {d : Dk} {sa : Option Addr} {sc : Nat} {ca : Option Addr} {cc : Nat} (hb : Bk w p (dval d sa sc ca cc) 29) : RV w1 m a c :=
  ⟨RdG.later h.rd f (fun x e hl => by
    subst e
    rintro rfl
    have h0 : 0 < m.ps.length := List.length_pos_iff.2 hl
    obtain ⟨b, o, e0, hat⟩ := RdP.form h.rd h0
    cases e0
    have h1 := (hat _ h.rd).2.1
    have h2 := (hat _ h.rd).2.2
    rw [Bk.cell hb] at h1 h2
    generalize o + 0 * 2 = q at *
    rcases (show q = 0 ∨ q = 1 ∨ q = 2 ∨ q = 3 ∨ 4 ≤ q by omega) with rfl | rfl | rfl | rfl | h4
    · cases (Option.some.inj h1)
    · cases (Option.some.inj h1)
    · cases (Option.some.inj h2)
    · cases (Option.some.inj h1)
    · rw [Array.getElem?_eq_none (by show 4 ≤ q; exact h4)] at h1; cases h1), h.len, h.max⟩
theorem writeD_ok {d : Dk} (h : d.ok) {q : Int} {b : List UInt8} (hb : b.length = 128) (hq : (Lit.int .i64 q).wf = true) : (writeD d q b).ok := by
  unfold writeD
  split
  · exact h
  · split
    · exact actD_ok h
    · split
      · exact actD_ok h
      · have ha := actD_ok h
        refine ⟨ha.s, fun x hx => ?_, ha.f⟩
        simp only [List.mem_append, List.mem_cons, List.not_mem_nil, or_false] at hx
        rcases hx with hx | rfl
        · exact h.c x hx
        · exact ⟨hb, hq⟩
theorem actD_S2 (d : Dk) : (actD d).S = d.S ∧ (actD d).C = d.C := by
  unfold actD
  split
  · exact ⟨rfl, rfl⟩
  · split
    · exact ⟨rfl, rfl⟩
    · split <;> exact ⟨rfl, rfl⟩
theorem writeD_S (d : Dk) (q : Int) (b : List UInt8) : (writeD d q b).S = d.S := by
  unfold writeD
  split
  · rfl
  · split
    · exact (actD_S2 d).1
    · split
      · exact (actD_S2 d).1
      · exact (actD_S2 d).1
theorem writeD_C (d : Dk) (q : Int) (b : List UInt8) : (writeD d q b).C.length ≤ d.C.length + 1 := by
  unfold writeD
  split
  · omega
  · split
    · rw [(actD_S2 d).2]; omega
    · split
      · rw [(actD_S2 d).2]; omega
      · show (d.C ++ [_]).length ≤ _
        simp
/-- the spares, one behind the other -/
def spareR (m : Rm) (b : List UInt8) : Nat → Int → Dk → Int × Int × Dk
  | 0, _, d => (0, 17, d)
  | k + 1, q, d => if m.ps.any (fun p => p.2 == q) = true then spareR m b k (q + 1) d else if writeE d q = 2 then spareR m b k (q + 1) (writeD d q b) else (q, writeE d q, writeD d q b)
theorem spareR_used {m : Rm} {b : List UInt8} {q M : Nat} {d : Dk} (hq : q < M) (h : m.ps.any (fun p => p.2 == (q : Int)) = true) : spareR m b (M - q) (q : Int) d = spareR m b (M - (q + 1)) ((q + 1 : Nat) : Int) d := by
  obtain ⟨k, hk⟩ : ∃ k, M - q = k + 1 := ⟨M - q - 1, by omega⟩
  rw [hk, show M - (q + 1) = k by omega, spareR, if_pos h]; rfl
theorem spareR_bad {m : Rm} {b : List UInt8} {q M : Nat} {d : Dk} (hq : q < M) (h : m.ps.any (fun p => p.2 == (q : Int)) = false) (he : writeE d q = 2) : spareR m b (M - q) (q : Int) d = spareR m b (M - (q + 1)) ((q + 1 : Nat) : Int) (writeD d q b) := by
  obtain ⟨k, hk⟩ : ∃ k, M - q = k + 1 := ⟨M - q - 1, by omega⟩
  rw [hk, show M - (q + 1) = k by omega, spareR, if_neg (by simp [h]), if_pos he]; rfl
theorem spareR_end {m : Rm} {b : List UInt8} {q M : Nat} {d : Dk} (hq : q < M) (h : m.ps.any (fun p => p.2 == (q : Int)) = false) (he : writeE d q ≠ 2) : spareR m b (M - q) (q : Int) d = ((q : Int), writeE d q, writeD d q b) := by
  obtain ⟨k, hk⟩ : ∃ k, M - q = k + 1 := ⟨M - q - 1, by omega⟩
  rw [hk, spareR, if_neg (by simp [h]), if_neg he]
set_option maxHeartbeats 2000000 in
set_option maxRecDepth 100000 in
theorem spare_calls (p : Nat) (d : Dk) (sa : Option Addr) (sc : Nat) (ca : Option Addr) (cc : Nat) (m : Rm) (a : Option Addr) (c : Nat) (b : List UInt8) (w : World) (hok : d.ok) (hv : DAt w p d sa sc ca cc) (hm : m.ok) (hr : RV w m a c) (hlen : m.ps.length ≤ 8796093022208) (hb : b.length = 128) (hC : d.C.length ≤ 1000) (hS : half (d.S.length : Int) ≠ 0) : Calls Tryd.prog 44 #[.pointer (some ⟨p, 0, none⟩), .agg (rval m a c), .agg (b.map B).toArray] w fun e w' => e = .returned (.tuple #[.int .i64 (spareR m b 20 (2 * half (d.S.length : Int)) d).1, .int .i64 (spareR m b 20 (2 * half (d.S.length : Int)) d).2.1]) ∧ Now w w' p (spareR m b 20 (2 * half (d.S.length : Int)) d).2.2 := by
  have hl := half_lo hS
  obtain ⟨N, hN⟩ : ∃ N : Nat, half (d.S.length : Int) = N := ⟨(half (d.S.length : Int)).toNat, by omega⟩
  have hNS : d.S.length = 2 * N + 20 := by omega
  have HHF : Hid (∀ W, Calls Tryd.prog 42 #[.int .i64 (d.S.length : Int)] W fun e w' => e = .returned (.int .i64 (N : Int)) ∧ w' = W) := Lib.hid (fun W => by have := half_calls (d.S.length : Int) W (wf_nat (by omega)); rwa [hN] at this)
  rw [hN]
  have HNS := Lib.hid hNS
  have hns1 : d.S.length ≤ 4096 := by omega
  have hns2 : 2 * N + 20 ≤ d.S.length := by omega
  have hs1 : (w.alloc (.cells (rval m a c) 32)).heap.size = w.heap.size + 1 := by simp
  have hs2 : ((w.alloc (.cells (rval m a c) 32)).alloc (.cells (b.map B).toArray 22)).heap.size = w.heap.size + 1 + 1 := by simp
  have HX0 : Hid (Bk ((w.alloc (.cells (rval m a c) 32)).alloc (.cells (b.map B).toArray 22)) w.heap.size (rval m a c) 32) := Lib.hid (Bk.alloc (Bk.new w _) _)
  have HY0 : Hid (Bk ((w.alloc (.cells (rval m a c) 32)).alloc (.cells (b.map B).toArray 22)) (w.heap.size + 1) (b.map B).toArray 22) := Lib.hid (by have := Bk.new (w.alloc (.cells (rval m a c) 32)) (.cells (b.map B).toArray 22); rwa [hs1] at this)
  have hf0 : Fr0 w ((w.alloc (.cells (rval m a c) 32)).alloc (.cells (b.map B).toArray 22)) := Fr.alloc (Fr.alloc (Fr.refl _ _) _) _
  have HF0 := Lib.hid hf0
  have HV0 := Lib.hid (hv.keep hf0)
  have HR0 := Lib.hid (hr.keep hf0)
  have c0 : ((w.alloc (.cells (rval m a c) 32)).alloc (.cells (b.map B).toArray 22)).cell? ⟨p, 0, none⟩ = some (.slice sa d.S.length sc) := Bk.cell HV0.out.blk 0
  have HP1 : Hid ((rval m a c)[1]? = some (.slice a m.ps.length c)) := Lib.hid rfl
  have HIB := Lib.hid (info_l hb)
  have HIN : Hid ((Tryd.prog.info? 32).map (·.size) = some (rval m a c).size) := Lib.hid (info_r _ _)
  have hpw : p < w.heap.size := Bk.lt hv.blk
  have HOK := Lib.hid hok
  have HBL := Lib.hid hb
  have hzi : ∀ W, (zeroValue 3).run Tryd.prog W = .ok (.int .i64 0) W := by intro W; kernel_rfl
  have hN2 : N ≤ 2038 := by omega
  have C0W : Hid (w.cell? ⟨p, 0, none⟩ = some (.slice sa d.S.length sc)) := Lib.hid (Bk.cell hv.blk 0)
  have HS2 := Lib.hid hs2
  clear hNS
  clear hf0 hs1 hs2 hv hr hok hb hS hl hN
  generalize hX : rval m a c = X at *
  have HXX := Lib.hid hX
  clear hX
  have c0w : w.cell? ⟨p, 0, none⟩ = some (.slice sa d.S.length sc) := C0W.out
  go_enter Tryd.func44, Tryd.ntmps44
  go_wp2_with (first | (go_at_call 42; (with_reducible refine (HHF.out _).mono ?_); rintro e w2 ⟨rfl, rfl⟩))
  have HBs : Hid (Bk (((w.alloc (.cells X 32)).alloc (.cells (b.map B).toArray 22)).alloc (.cells #[.int .i64 (2 * (N : Int))] 3)) (w.heap.size + 1 + 1) #[.int .i64 (2 * (N : Int))] 3) := Lib.hid (by have := Bk.new ((w.alloc (.cells X 32)).alloc (.cells (b.map B).toArray 22)) (.cells #[.int .i64 (2 * (N : Int))] 3); rwa [HS2.out] at this)
  have hfb : Fr0 ((w.alloc (.cells X 32)).alloc (.cells (b.map B).toArray 22)) (((w.alloc (.cells X 32)).alloc (.cells (b.map B).toArray 22)).alloc (.cells #[.int .i64 (2 * (N : Int))] 3)) := Fr.alloc (Fr.refl _ _) _
  have HX1 := Lib.hid (hfb.keep HX0.out (fun h => h))
  have HY1 := Lib.hid (hfb.keep HY0.out (fun h => h))
  have HF1 := Lib.hid (HF0.out.then0 hfb)
  have HV1 : Hid (DIn (((w.alloc (.cells X 32)).alloc (.cells (b.map B).toArray 22)).alloc (.cells #[.int .i64 (2 * (N : Int))] 3)) p d) := Lib.hid ⟨sa, sc, ca, cc, HV0.out.keep hfb⟩
  have HR1 := Lib.hid (HR0.out.keep hfb)
  have hgb : w.heap.size + 1 < w.heap.size + 1 + 1 := by omega
  clear hfb HX0 HY0 HF0 HV0 HR0 c0 c0w C0W HS2 HHF
  generalize ((w.alloc (.cells X 32)).alloc (.cells (b.map B).toArray 22)).alloc (.cells #[.int .i64 (2 * (N : Int))] 3) = w3 at *
  generalize hgs : w.heap.size + 1 + 1 = gs at *
  have HSP : Hid (spareR m b 20 (2 * (N : Int)) d = spareR m b (2 * N + 20 - 2 * N) ((2 * N : Nat) : Int) d) := Lib.hid (by rw [show 2 * N + 20 - 2 * N = 20 by omega, show ((2 * N : Nat) : Int) = 2 * (N : Int) by omega])
  rw [show (2 * (N : Int)) = ((2 * N : Nat) : Int) by omega] at HBs
  go_loopw [8] (fun pv W => ∃ (q ga : Nat) (dk : Dk), 2 * N ≤ q ∧ q ≤ 2 * N + 20 ∧ pv = .pointer (some ⟨ga, 0, none⟩) ∧ Bk W ga #[.int .i64 (q : Int)] 3 ∧ w.heap.size + 1 < ga ∧ DIn W p dk ∧ dk.ok ∧ dk.S.length = 2 * N + 20 ∧ dk.C.length ≤ 1000 + (q - 2 * N) ∧ spareR m b 20 (2 * (N : Int)) d = spareR m b (2 * N + 20 - q) (q : Int) dk ∧ Bk W w.heap.size X 32 ∧ Bk W (w.heap.size + 1) (b.map B).toArray 22 ∧ RV W m a c ∧ Fr (fun i => i = p) w W) (fun pv W => 2 * N + 20 - (match pv with | .pointer (some ad) => (match W.cell? ad with | some (.int _ z) => z.toNat | _ => 0) | _ => 0))
  case atStart => exact ⟨2 * N, gs, d, Nat.le_refl _, by omega, rfl, HBs.out, by omega, HV1.out, HOK.out, HNS.out, by omega, HSP.out, HX1.out, HY1.out, HR1.out, HF1.out.weaken (fun _ _ h => h.elim)⟩
  case round =>
    obtain ⟨q, ga, dk, hq1, hq2, rfl, hbg, hga, ⟨sa', sc', ca', cc', hvk⟩, hokk, hnk, hck, hsp, hxk, hyk, hrk, hFk⟩ := hrel
    clear HBs HX1 HY1 HF1 HV1 HR1 HSP
    have d0 : wr.cell? ⟨ga, 0, none⟩ = some (.int .i64 (q : Int)) := Bk.cell hbg 0
    have d1 : wr.cell? ⟨p, 0, none⟩ = some (.slice sa' dk.S.length sc') := Bk.cell hvk.blk 0
    have d2 : wr.cell? ⟨w.heap.size, 1, none⟩ = some (.slice a m.ps.length c) := (Bk.cell hxk 1).trans HP1.out
    have HBG := Lib.hid hbg
    have HVK := Lib.hid hvk
    have HOKK := Lib.hid hokk
    have HSP := Lib.hid hsp
    have HXK := Lib.hid hxk
    have HYK := Lib.hid hyk
    have HRK := Lib.hid hrk
    have HFK := Lib.hid hFk
    have HME : Hid (wr.cell? ⟨ga, 0, none⟩ = some (.int .i64 (q : Int))) := Lib.hid d0
    clear hbg hvk hokk hsp hxk hyk hrk hFk
    have HNK := Lib.hid hnk
    have hnk1 : dk.S.length ≤ 2 * N + 20 := by omega
    have hnk2 : 2 * N + 20 ≤ dk.S.length := by omega
    clear hnk
    have hsn := HVK.out.v.sn
    have hsm := HVK.out.v.sm
    by_cases hql : q < dk.S.length
    · go_wp2
      go_quiet (fail)
      have HBGq : Hid (Bk (wr.drewN nq) ga #[.int .i64 (q : Int)] 3) := HBG
      have HVKq : Hid (DAt (wr.drewN nq) p dk sa' sc' ca' cc') := Lib.hid (HVK.out.keep (Fr.drewN (Fr.refl _ _) nq))
      have HXKq : Hid (Bk (wr.drewN nq) w.heap.size X 32) := HXK
      have HYKq : Hid (Bk (wr.drewN nq) (w.heap.size + 1) (b.map B).toArray 22) := HYK
      have HRKq : Hid (RV (wr.drewN nq) m a c) := Lib.hid (HRK.out.keep (Fr.drewN (Fr.refl _ _) nq))
      have HFKq : Hid (Fr (fun i => i = p) w (wr.drewN nq)) := Lib.hid (Fr.drewN HFK.out nq)
      clear HBG HVK HXK HYK HRK HFK d0 d1 d2
      generalize wr.drewN nq = wq at *
      have d2 : wq.cell? ⟨w.heap.size, 1, none⟩ = some (.slice a m.ps.length c) := (Bk.cell HXKq.out 1).trans HP1.out
      have HCF := Lib.hid (scont_calls m.ps a c ga (q : Int) wq HRKq.out.rd hlen HBGq.out)
      have hgp : ga ≠ p := by omega
      have hql2 : q < 2 * N + 20 := by omega
      have hXp : w.heap.size ≠ p := by omega
      have hYp : w.heap.size + 1 ≠ p := by omega
      have HQW : Hid ((Lit.int .i64 (q : Int)).wf = true) := Lib.hid (wf_nat (by omega))
      cases hu : m.ps.any (fun p => p.2 == (q : Int)) with
      | true =>
        have HSPn := Lib.hid (HSP.out.trans (spareR_used hql2 hu))
        rw [hu] at HCF
        clear hu
        go_wp2_with (first | (go_at_call 61; (with_reducible refine HCF.out.mono ?_); rintro e w4 ⟨rfl, hf4⟩; have HB4 := Lib.hid (hf4.keep HBGq.out (fun h => h)); have HV4 := Lib.hid (HVKq.out.keep hf4); have HXw4 := Lib.hid (hf4.keep HXKq.out (fun h => h)); have HYw4 := Lib.hid (hf4.keep HYKq.out (fun h => h)); have HRw4 := Lib.hid (HRKq.out.keep hf4); have HFw4 := Lib.hid (HFKq.out.then0 hf4); have e0 : w4.cell? ⟨ga, 0, none⟩ = some (.int .i64 (q : Int)) := Bk.cell HB4.out 0; clear hf4))
        have hnb : Bk (w4.alloc (.cells #[.int .i64 ((q : Int) + 1)] 3)) w4.heap.size #[.int .i64 ((q + 1 : Nat) : Int)] 3 := Bk.new _ _
        have HNC : Hid ((w4.alloc (.cells #[.int .i64 ((q : Int) + 1)] 3)).cell? ⟨w4.heap.size, 0, none⟩ = some (.int .i64 ((q + 1 : Nat) : Int))) := Lib.hid (Bk.cell hnb 0)
        have HNB := Lib.hid hnb
        have hfn : Fr0 w4 (w4.alloc (.cells #[.int .i64 ((q : Int) + 1)] 3)) := Fr.alloc (Fr.refl _ _) _
        have HFN := Lib.hid hfn
        have hgn : w.heap.size + 1 < w4.heap.size := Bk.lt HYw4.out
        clear hnb hfn
        go_roundw
        case rel => exact ⟨q + 1, w4.heap.size, dk, by omega, by omega, rfl, HNB.out, hgn, ⟨_, _, _, _, HV4.out.keep HFN.out⟩, HOKK.out, HNK.out, by omega, HSPn.out, HFN.out.keep HXw4.out (fun h => h), HFN.out.keep HYw4.out (fun h => h), HRw4.out.keep HFN.out, HFw4.out.then0 HFN.out⟩
        case measure =>
          simp only [HME.out, HNC.out]
          omega
      | false =>
        have HUF := Lib.hid hu
        rw [hu] at HCF
        clear hu
        have HWR : Hid (∀ W, DAt W p dk sa' sc' ca' cc' → Calls Tryd.prog 36 #[.pointer (some ⟨p, 0, none⟩), .int .i64 (q : Int), .agg (b.map B).toArray] W fun e w' => e = .returned (.int .i64 (writeE dk q)) ∧ Now W w' p (writeD dk q b)) := Lib.hid (fun W h => DiskWrite.write_calls p q b dk sa' sc' ca' cc' W HOKK.out h HBL.out (by omega) HQW.out)
        have HWO : Hid ((writeD dk q b).ok) := Lib.hid (writeD_ok HOKK.out HBL.out HQW.out)
        have HWS : Hid ((writeD dk q b).S.length = 2 * N + 20) := Lib.hid (by rw [writeD_S]; exact HNK.out)
        have HWC : Hid ((writeD dk q b).C.length ≤ 1000 + (q + 1 - 2 * N)) := Lib.hid (by have := writeD_C dk q b; omega)
        by_cases he : writeE dk q = 2
        · have HSPn := Lib.hid (HSP.out.trans (spareR_bad hql2 HUF.out he))
          rw [he] at HWR
          clear he HUF
          go_wp2_with (first | (go_at_call 61; (with_reducible refine HCF.out.mono ?_); rintro e w4 ⟨rfl, hf4⟩; have HB4 := Lib.hid (hf4.keep HBGq.out (fun h => h)); have HV4 := Lib.hid (HVKq.out.keep hf4); have HX4 := Lib.hid (hf4.keep HXKq.out (fun h => h)); have HY4 := Lib.hid (hf4.keep HYKq.out (fun h => h)); have HR4 := Lib.hid (HRKq.out.keep hf4); have HF4 := Lib.hid (HFKq.out.then0 hf4); have e0 : w4.cell? ⟨ga, 0, none⟩ = some (.int .i64 (q : Int)) := Bk.cell HB4.out 0; clear hf4) | ((with_reducible show wpList _ _ _ ({ dst := _, op := Op.load 22 _, type := _, pos := _, after := _, guard := _ } :: _) _ _); refine wpList_load_row_g (by rfl) 22 _ rfl (w.heap.size + 1) rfl 22 (b.map B).toArray (0, 0) _ HY4.out Tryd.underlying22 rfl HIB.out ?_) | (go_at_call 36; (with_reducible refine (HWR.out _ HV4.out).mono ?_); rintro e w5 ⟨rfl, ⟨s5, n5, c5, m5, hv5⟩, hf5⟩; have HVw5 := Lib.hid hv5; have HB5 := Lib.hid (hf5.keep HB4.out hgp); have HXw5 := Lib.hid (hf5.keep HX4.out hXp); have HYw5 := Lib.hid (hf5.keep HY4.out hYp); have HRw5 := Lib.hid (RV.past HR4.out hf5 HV4.out.blk); have HFw5 : Hid (Fr (fun i => i = p) w w5) := Lib.hid (HF4.out.trans hf5); have e5 : w5.cell? ⟨ga, 0, none⟩ = some (.int .i64 (q : Int)) := Bk.cell HB5.out 0; clear hv5 hf5))
          have hnb : Bk (w5.alloc (.cells #[.int .i64 ((q : Int) + 1)] 3)) w5.heap.size #[.int .i64 ((q + 1 : Nat) : Int)] 3 := Bk.new _ _
          have HNC : Hid ((w5.alloc (.cells #[.int .i64 ((q : Int) + 1)] 3)).cell? ⟨w5.heap.size, 0, none⟩ = some (.int .i64 ((q + 1 : Nat) : Int))) := Lib.hid (Bk.cell hnb 0)
          have HNB := Lib.hid hnb
          have hfn : Fr0 w5 (w5.alloc (.cells #[.int .i64 ((q : Int) + 1)] 3)) := Fr.alloc (Fr.refl _ _) _
          have HFN := Lib.hid hfn
          have hgn : w.heap.size + 1 < w5.heap.size := Bk.lt HYw5.out
          clear hnb hfn
          go_roundw
          case rel => exact ⟨q + 1, w5.heap.size, (writeD dk q b), by omega, by omega, rfl, HNB.out, hgn, ⟨_, _, _, _, HVw5.out.keep HFN.out⟩, HWO.out, HWS.out, HWC.out, HSPn.out, HFN.out.keep HXw5.out (fun h => h), HFN.out.keep HYw5.out (fun h => h), HRw5.out.keep HFN.out, HFw5.out.then0 HFN.out⟩
          case measure =>
            simp only [HME.out, HNC.out]
            omega
        · have HSPn := Lib.hid (HSP.out.trans (spareR_end hql2 HUF.out he))
          have he2 : (writeE dk q == 2) = false := by simpa using he
          have he3 : (writeE dk q != 2) = true := by simpa using he
          generalize hee : writeE dk q = ee at *
          clear he HUF
          go_wp2_with (first | (go_at_call 61; (with_reducible refine HCF.out.mono ?_); rintro e w4 ⟨rfl, hf4⟩; have HB4 := Lib.hid (hf4.keep HBGq.out (fun h => h)); have HV4 := Lib.hid (HVKq.out.keep hf4); have HX4 := Lib.hid (hf4.keep HXKq.out (fun h => h)); have HY4 := Lib.hid (hf4.keep HYKq.out (fun h => h)); have HR4 := Lib.hid (HRKq.out.keep hf4); have HF4 := Lib.hid (HFKq.out.then0 hf4); have e0 : w4.cell? ⟨ga, 0, none⟩ = some (.int .i64 (q : Int)) := Bk.cell HB4.out 0; clear hf4) | ((with_reducible show wpList _ _ _ ({ dst := _, op := Op.load 22 _, type := _, pos := _, after := _, guard := _ } :: _) _ _); refine wpList_load_row_g (by rfl) 22 _ rfl (w.heap.size + 1) rfl 22 (b.map B).toArray (0, 0) _ HY4.out Tryd.underlying22 rfl HIB.out ?_) | (go_at_call 36; (with_reducible refine (HWR.out _ HV4.out).mono ?_); rintro e w5 ⟨rfl, ⟨s5, n5, c5, m5, hv5⟩, hf5⟩; have HVw5 := Lib.hid hv5; have HB5 := Lib.hid (hf5.keep HB4.out hgp); have HXw5 := Lib.hid (hf5.keep HX4.out hXp); have HYw5 := Lib.hid (hf5.keep HY4.out hYp); have HRw5 := Lib.hid (RV.past HR4.out hf5 HV4.out.blk); have HFw5 : Hid (Fr (fun i => i = p) w w5) := Lib.hid (HF4.out.trans hf5); have e5 : w5.cell? ⟨ga, 0, none⟩ = some (.int .i64 (q : Int)) := Bk.cell HB5.out 0; clear hv5 hf5))
          go_ret2
          exact ⟨by rw [HSPn.out]; rfl, by rw [HSPn.out]; exact ⟨⟨_, _, _, _, HVw5.out⟩, HFw5.out⟩⟩
    · have hqe : q = 2 * N + 20 := by omega
      subst hqe
      have HSPn : Hid (spareR m b 20 (2 * (N : Int)) d = (0, 17, dk)) := Lib.hid (by rw [HSP.out, Nat.sub_self, spareR])
      go_wp2
      go_quiet (fail)
      go_wp2
      go_ret2
      exact ⟨by rw [HSPn.out]; rfl, by rw [HSPn.out]; exact ⟨⟨_, _, _, _, HVK.out.keep (Fr.drewN (Fr.refl _ _) nq)⟩, Fr.drewN HFK.out nq⟩⟩

end Go.Proofs.YtmkmpfnadcmcoaaDoor.RmSpare
