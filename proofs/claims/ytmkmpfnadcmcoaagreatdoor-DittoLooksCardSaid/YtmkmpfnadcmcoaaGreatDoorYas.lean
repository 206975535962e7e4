/- The theorems that the claim uses, text behind text (part 19). -/
import Derived.Test.YtmkmpfnadcmcoaaGreatDoorYad
import Derived.Test.YtmkmpfnadcmcoaaGreatDoorYaq
import Derived.Test.YtmkmpfnadcmcoaaGreatDoorYar
set_option maxRecDepth 100000
set_option maxHeartbeats 8000000
set_option linter.unusedVariables false
set_option linter.unusedSimpArgs false
namespace Go.Proofs.YtmkmpfnadcmcoaaGreatDoor.RmSpare
open Go Go.RowKit K EqKit ArrKit HeldKit GKit GRow DiskKit RmKit MapKit RmRight RmRRight RmTab RmPut RmAsk RmSame DiskRRead RmRead RmReads DiskAct
theorem RV.past {w w1 : World} {m : Rm} {a : Option Addr} {c p : Nat} (h : RV w m a c) (f : Fr (fun i => i = p) w w1) {d : Dk} {sa : Option Addr} {sc : Nat} {ca : Option Addr} {cc : Nat} (hb : Bk w p (dval d sa sc ca cc) 25) : RV w1 m a c :=
 ⟨RdG.later h.rd f (fun x e hl => by
  subst e
  rintro rfl
  have h0 : 0 < m.ps.length := List.length_pos_iff.2 hl
  obtain ⟨b, o, e0, hat⟩ := RdP.form h.rd h0
  cases e0
  have h1 := (hat _ h.rd).2.1
  have h2 := (hat _ h.rd).2.2
  rw [Bk.cell hb] at h1 h2
  generalize o + 0 * 2 = q at *
  rcases (show q = 0 ∨ q = 1 ∨ q = 2 ∨ q = 3 ∨ 4 ≤ q by omega) with rfl | rfl | rfl | rfl | h4
  ·cases (Option.some.inj h1)
  ·cases (Option.some.inj h1)
  ·cases (Option.some.inj h2)
  ·cases (Option.some.inj h1)
  ·rw [Array.getElem?_eq_none (by show 4 ≤ q;exact h4)] at h1;cases h1), h.len, h.max⟩
theorem writeD_ok {d : Dk} (h : d.ok) {q : Int} {b : List UInt8} (hb : b.length = 128) (hq : (Lit.int .i64 q).wf = true) : (writeD d q b).ok := by
 unfold writeD
 split
 ·exact h
 ·split
  ·exact actD_ok h
  ·split
   ·exact actD_ok h
   ·have ha := actD_ok h
    refine ⟨ha.s, fun x hx => ?_, ha.f⟩
    simp only [List.mem_append, List.mem_cons, List.not_mem_nil, or_false] at hx
    rcases hx with hx | rfl
    ·exact h.c x hx
    ·exact ⟨hb, hq⟩
theorem actD_S2 (d : Dk) : (actD d).S = d.S ∧ (actD d).C = d.C := by
 unfold actD
 split
 ·exact ⟨rfl, rfl⟩
 ·split
  ·exact ⟨rfl, rfl⟩
  ·split <;> exact ⟨rfl, rfl⟩
theorem writeD_S (d : Dk) (q : Int) (b : List UInt8) : (writeD d q b).S = d.S := by
 unfold writeD
 split
 ·rfl
 ·split
  ·exact (actD_S2 d).1
  ·split
   ·exact (actD_S2 d).1
   ·exact (actD_S2 d).1
theorem writeD_C (d : Dk) (q : Int) (b : List UInt8) : (writeD d q b).C.length ≤ d.C.length + 1 := by
 unfold writeD
 split
 ·omega
 ·split
  ·rw [(actD_S2 d).2];omega
  ·split
   ·rw [(actD_S2 d).2];omega
   ·show (d.C ++ [_]).length ≤ _
    simp
def spareR (m : Rm) (b : List UInt8) : Nat → Int → Dk → Int × Int × Dk
 | 0, _, d => (0, 17, d)
 | k + 1, q, d => if m.ps.any (fun p => p.2 == q) = true then spareR m b k (q + 1) d else if writeE d q = 2 then spareR m b k (q + 1) (writeD d q b) else (q, writeE d q, writeD d q b)
theorem spareR_used {m : Rm} {b : List UInt8} {q M : Nat} {d : Dk} (hq : q < M) (h : m.ps.any (fun p => p.2 == (q : Int)) = true) : spareR m b (M - q) (q : Int) d = spareR m b (M - (q + 1)) ((q + 1 : Nat) : Int) d := by
 obtain ⟨k, hk⟩ : ∃ k, M - q = k + 1 := ⟨M - q - 1, by omega⟩
 rw [hk, show M - (q + 1) = k by omega, spareR, if_pos h];rfl
theorem spareR_bad {m : Rm} {b : List UInt8} {q M : Nat} {d : Dk} (hq : q < M) (h : m.ps.any (fun p => p.2 == (q : Int)) = false) (he : writeE d q = 2) : spareR m b (M - q) (q : Int) d = spareR m b (M - (q + 1)) ((q + 1 : Nat) : Int) (writeD d q b) := by
 obtain ⟨k, hk⟩ : ∃ k, M - q = k + 1 := ⟨M - q - 1, by omega⟩
 rw [hk, show M - (q + 1) = k by omega, spareR, if_neg (by simp [h]), if_pos he];rfl
theorem spareR_end {m : Rm} {b : List UInt8} {q M : Nat} {d : Dk} (hq : q < M) (h : m.ps.any (fun p => p.2 == (q : Int)) = false) (he : writeE d q ≠ 2) : spareR m b (M - q) (q : Int) d = ((q : Int), writeE d q, writeD d q b) := by
 obtain ⟨k, hk⟩ : ∃ k, M - q = k + 1 := ⟨M - q - 1, by omega⟩
 rw [hk, spareR, if_neg (by simp [h]), if_neg he]
theorem spare_calls (p : Nat) (d : Dk) (sa : Option Addr) (sc : Nat) (ca : Option Addr) (cc : Nat) (m : Rm) (a : Option Addr) (c : Nat) (b : List UInt8) (w : World) (hok : d.ok) (hv : DAt w p d sa sc ca cc) (hm : m.ok) (hr : RV w m a c) (hlen : m.ps.length ≤ 8796093022208) (hb : b.length = 128) (hC : d.C.length ≤ 1000) (hS : half (d.S.length : Int) ≠ 0) : Calls Tryz.prog 60 #[.pointer (some ⟨p, 0, none⟩), .agg (rval m a c), .agg (b.map B).toArray] w fun e w' => e = .returned (.tuple #[.int .i64 (spareR m b 20 (2 * half (d.S.length : Int)) d).1, .int .i64 (spareR m b 20 (2 * half (d.S.length : Int)) d).2.1]) ∧ Now w w' p (spareR m b 20 (2 * half (d.S.length : Int)) d).2.2 := by
 have hl := half_lo hS
 obtain ⟨N, hN⟩ : ∃ N : Nat, half (d.S.length : Int) = N := ⟨(half (d.S.length : Int)).toNat, by omega⟩
 have hNS : d.S.length = 2 * N + 20 := by omega
 have HHF : Jq7 (∀ W, Calls Tryz.prog 40 #[.int .i64 (d.S.length : Int)] W fun e w' => e = .returned (.int .i64 (N : Int)) ∧ w' = W) := jq7 (fun W => by have := half_calls (d.S.length : Int) W (wf_nat (by omega));rwa [hN] at this)
 rw [hN]
 have HNS := jq7 hNS
 have hns1 : d.S.length ≤ 4096 := by omega
 have hns2 : 2 * N + 20 ≤ d.S.length := by omega
 have hs1 : (w.alloc (.cells (rval m a c) 28)).heap.size = w.heap.size + 1 := by simp
 have hs2 : ((w.alloc (.cells (rval m a c) 28)).alloc (.cells (b.map B).toArray 36)).heap.size = w.heap.size + 1 + 1 := by simp
 have HX0 : Jq7 (Bk ((w.alloc (.cells (rval m a c) 28)).alloc (.cells (b.map B).toArray 36)) w.heap.size (rval m a c) 28) := jq7 (Bk.alloc (Bk.new w _) _)
 have HY0 : Jq7 (Bk ((w.alloc (.cells (rval m a c) 28)).alloc (.cells (b.map B).toArray 36)) (w.heap.size + 1) (b.map B).toArray 36) := jq7 (by have := Bk.new (w.alloc (.cells (rval m a c) 28)) (.cells (b.map B).toArray 36);rwa [hs1] at this)
 have hf0 : Fr0 w ((w.alloc (.cells (rval m a c) 28)).alloc (.cells (b.map B).toArray 36)) := Fr.alloc (Fr.alloc (Fr.refl _ _) _) _
 have HF0 := jq7 hf0
 have HV0 := jq7 (hv.keep hf0)
 have HR0 := jq7 (hr.keep hf0)
 have c0 : ((w.alloc (.cells (rval m a c) 28)).alloc (.cells (b.map B).toArray 36)).cell? ⟨p, 0, none⟩ = some (.slice sa d.S.length sc) := Bk.cell HV0.o.blk 0
 have HP1 : Jq7 ((rval m a c)[1]? = some (.slice a m.ps.length c)) := jq7 rfl
 have HIB := jq7 (info_l hb)
 have HIN : Jq7 ((Tryz.prog.info? 28).map (·.size) = some (rval m a c).size) := jq7 (info_r _ _)
 have hpw : p < w.heap.size := Bk.lt hv.blk
 have HOK := jq7 hok
 have HBL := jq7 hb
 have hzi : ∀ W, (zeroValue 3).run Tryz.prog W = .ok (.int .i64 0) W := by intro W;kernel_rfl
 have hN2 : N ≤ 2038 := by omega
 have C0W : Jq7 (w.cell? ⟨p, 0, none⟩ = some (.slice sa d.S.length sc)) := jq7 (Bk.cell hv.blk 0)
 have HS2 := jq7 hs2
 clear hNS
 clear hf0 hs1 hs2 hv hr hok hb hS hl hN
 generalize hX : rval m a c = X at *
 have HXX := jq7 hX
 clear hX
 have c0w : w.cell? ⟨p, 0, none⟩ = some (.slice sa d.S.length sc) := C0W.o
 go_enter Tryz.func60, Tryz.ntmps60
 go_wp2_with (first | (go_at_call 40;(with_reducible refine (HHF.o _).mono ?_);rintro e w2 ⟨rfl, rfl⟩))
 have HBs : Jq7 (Bk (((w.alloc (.cells X 28)).alloc (.cells (b.map B).toArray 36)).alloc (.cells #[.int .i64 (2 * (N : Int))] 3)) (w.heap.size + 1 + 1) #[.int .i64 (2 * (N : Int))] 3) := jq7 (by have := Bk.new ((w.alloc (.cells X 28)).alloc (.cells (b.map B).toArray 36)) (.cells #[.int .i64 (2 * (N : Int))] 3);rwa [HS2.o] at this)
 have hfb : Fr0 ((w.alloc (.cells X 28)).alloc (.cells (b.map B).toArray 36)) (((w.alloc (.cells X 28)).alloc (.cells (b.map B).toArray 36)).alloc (.cells #[.int .i64 (2 * (N : Int))] 3)) := Fr.alloc (Fr.refl _ _) _
 have HX1 := kq0 hfb HX0
 have HY1 := kq0 hfb HY0
 have HF1 := fq0 HF0 hfb
 have HV1 : Jq7 (DIn (((w.alloc (.cells X 28)).alloc (.cells (b.map B).toArray 36)).alloc (.cells #[.int .i64 (2 * (N : Int))] 3)) p d) := jq7 ⟨sa, sc, ca, cc, HV0.o.keep hfb⟩
 have HR1 := jq7 (HR0.o.keep hfb)
 have hgb : w.heap.size + 1 < w.heap.size + 1 + 1 := by omega
 clear hfb HX0 HY0 HF0 HV0 HR0 c0 c0w C0W HS2 HHF
 generalize ((w.alloc (.cells X 28)).alloc (.cells (b.map B).toArray 36)).alloc (.cells #[.int .i64 (2 * (N : Int))] 3) = w3 at *
 generalize hgs : w.heap.size + 1 + 1 = gs at *
 have HSP : Jq7 (spareR m b 20 (2 * (N : Int)) d = spareR m b (2 * N + 20 - 2 * N) ((2 * N : Nat) : Int) d) := jq7 (by rw [show 2 * N + 20 - 2 * N = 20 by omega, show ((2 * N : Nat) : Int) = 2 * (N : Int) by omega])
 rw [show (2 * (N : Int)) = ((2 * N : Nat) : Int) by omega] at HBs
 go_loopw [8] (fun pv W => ∃ (q ga : Nat) (dk : Dk), 2 * N ≤ q ∧ q ≤ 2 * N + 20 ∧ pv = .pointer (some ⟨ga, 0, none⟩) ∧ Bk W ga #[.int .i64 (q : Int)] 3 ∧ w.heap.size + 1 < ga ∧ DIn W p dk ∧ dk.ok ∧ dk.S.length = 2 * N + 20 ∧ dk.C.length ≤ 1000 + (q - 2 * N) ∧ spareR m b 20 (2 * (N : Int)) d = spareR m b (2 * N + 20 - q) (q : Int) dk ∧ Bk W w.heap.size X 28 ∧ Bk W (w.heap.size + 1) (b.map B).toArray 36 ∧ RV W m a c ∧ Fr (fun i => i = p) w W) (fun pv W => 2 * N + 20 - (match pv with | .pointer (some ad) => (match W.cell? ad with | some (.int _ z) => z.toNat | _ => 0) | _ => 0))
 case atStart => exact ⟨2 * N, gs, d, Nat.le_refl _, by omega, rfl, HBs.o, by omega, HV1.o, HOK.o, HNS.o, by omega, HSP.o, HX1.o, HY1.o, HR1.o, HF1.o.weaken (fun _ _ h => h.elim)⟩
 case round =>
  obtain ⟨q, ga, dk, hq1, hq2, rfl, hbg, hga, ⟨sa', sc', ca', cc', hvk⟩, hokk, hnk, hck, hsp, hxk, hyk, hrk, hFk⟩ := hrel
  clear HBs HX1 HY1 HF1 HV1 HR1 HSP
  have d0 : wr.cell? ⟨ga, 0, none⟩ = some (.int .i64 (q : Int)) := Bk.cell hbg 0
  have d1 : wr.cell? ⟨p, 0, none⟩ = some (.slice sa' dk.S.length sc') := Bk.cell hvk.blk 0
  have d2 : wr.cell? ⟨w.heap.size, 1, none⟩ = some (.slice a m.ps.length c) := (Bk.cell hxk 1).trans HP1.o
  have HBG := jq7 hbg
  have HVK := jq7 hvk
  have HOKK := jq7 hokk
  have HSP := jq7 hsp
  have HXK := jq7 hxk
  have HYK := jq7 hyk
  have HRK := jq7 hrk
  have HFK := jq7 hFk
  have HME : Jq7 (wr.cell? ⟨ga, 0, none⟩ = some (.int .i64 (q : Int))) := jq7 d0
  clear hbg hvk hokk hsp hxk hyk hrk hFk
  have HNK := jq7 hnk
  have hnk1 : dk.S.length ≤ 2 * N + 20 := by omega
  have hnk2 : 2 * N + 20 ≤ dk.S.length := by omega
  clear hnk
  have hsn := HVK.o.v.sn
  have hsm := HVK.o.v.sm
  by_cases hql : q < dk.S.length
  ·go_wp2
   go_quiet (fail)
   have HBGq : Jq7 (Bk (wr.drewN nq) ga #[.int .i64 (q : Int)] 3) := HBG
   have HVKq : Jq7 (DAt (wr.drewN nq) p dk sa' sc' ca' cc') := jq7 (HVK.o.keep (Fr.drewN (Fr.refl _ _) nq))
   have HXKq : Jq7 (Bk (wr.drewN nq) w.heap.size X 28) := HXK
   have HYKq : Jq7 (Bk (wr.drewN nq) (w.heap.size + 1) (b.map B).toArray 36) := HYK
   have HRKq : Jq7 (RV (wr.drewN nq) m a c) := jq7 (HRK.o.keep (Fr.drewN (Fr.refl _ _) nq))
   have HFKq : Jq7 (Fr (fun i => i = p) w (wr.drewN nq)) := jq7 (Fr.drewN HFK.o nq)
   clear HBG HVK HXK HYK HRK HFK d0 d1 d2
   generalize wr.drewN nq = wq at *
   have d2 : wq.cell? ⟨w.heap.size, 1, none⟩ = some (.slice a m.ps.length c) := (Bk.cell HXKq.o 1).trans HP1.o
   have HCF := jq7 (scont_calls m.ps a c ga (q : Int) wq HRKq.o.rd hlen HBGq.o)
   have hgp : ga ≠ p := by omega
   have hql2 : q < 2 * N + 20 := by omega
   have hXp : w.heap.size ≠ p := by omega
   have hYp : w.heap.size + 1 ≠ p := by omega
   have HQW : Jq7 ((Lit.int .i64 (q : Int)).wf = true) := jq7 (wf_nat (by omega))
   cases hu : m.ps.any (fun p => p.2 == (q : Int)) with
   | true =>
    have HSPn := jq7 (HSP.o.trans (spareR_used hql2 hu))
    rw [hu] at HCF
    clear hu
    go_wp2_with (first | (go_at_call 85;(with_reducible refine HCF.o.mono ?_);rintro e w4 ⟨rfl, hf4⟩;have HB4 := kq0 hf4 HBGq;have HV4 := jq7 (HVKq.o.keep hf4);have HXw4 := kq0 hf4 HXKq;have HYw4 := kq0 hf4 HYKq;have HRw4 := jq7 (HRKq.o.keep hf4);have HFw4 := fq0 HFKq hf4;have e0 : w4.cell? ⟨ga, 0, none⟩ = some (.int .i64 (q : Int)) := Bk.cell HB4.o 0;clear hf4))
    have hnb : Bk (w4.alloc (.cells #[.int .i64 ((q : Int) + 1)] 3)) w4.heap.size #[.int .i64 ((q + 1 : Nat) : Int)] 3 := Bk.new _ _
    have HNC : Jq7 ((w4.alloc (.cells #[.int .i64 ((q : Int) + 1)] 3)).cell? ⟨w4.heap.size, 0, none⟩ = some (.int .i64 ((q + 1 : Nat) : Int))) := jq7 (Bk.cell hnb 0)
    have HNB := jq7 hnb
    have hfn : Fr0 w4 (w4.alloc (.cells #[.int .i64 ((q : Int) + 1)] 3)) := Fr.alloc (Fr.refl _ _) _
    have HFN := jq7 hfn
    have hgn : w.heap.size + 1 < w4.heap.size := Bk.lt HYw4.o
    clear hnb hfn
    go_roundw
    case rel => exact ⟨q + 1, w4.heap.size, dk, by omega, by omega, rfl, HNB.o, hgn, ⟨_, _, _, _, HV4.o.keep HFN.o⟩, HOKK.o, HNK.o, by omega, HSPn.o, HFN.o.keep HXw4.o (fun h => h), HFN.o.keep HYw4.o (fun h => h), HRw4.o.keep HFN.o, HFw4.o.then0 HFN.o⟩
    case measure =>
     simp only [HME.o, HNC.o]
     omega
   | false =>
    have HUF := jq7 hu
    rw [hu] at HCF
    clear hu
    have HWR : Jq7 (∀ W, DAt W p dk sa' sc' ca' cc' → Calls Tryz.prog 55 #[.pointer (some ⟨p, 0, none⟩), .int .i64 (q : Int), .agg (b.map B).toArray] W fun e w' => e = .returned (.int .i64 (writeE dk q)) ∧ Now W w' p (writeD dk q b)) := jq7 (fun W h => DiskWrite.write_calls p q b dk sa' sc' ca' cc' W HOKK.o h HBL.o (by omega) HQW.o)
    have HWO : Jq7 ((writeD dk q b).ok) := jq7 (writeD_ok HOKK.o HBL.o HQW.o)
    have HWS : Jq7 ((writeD dk q b).S.length = 2 * N + 20) := jq7 (by rw [writeD_S];exact HNK.o)
    have HWC : Jq7 ((writeD dk q b).C.length ≤ 1000 + (q + 1 - 2 * N)) := jq7 (by have := writeD_C dk q b;omega)
    by_cases he : writeE dk q = 2
    ·have HSPn := jq7 (HSP.o.trans (spareR_bad hql2 HUF.o he))
     rw [he] at HWR
     clear he HUF
     go_wp2_with (first | (go_at_call 85;(with_reducible refine HCF.o.mono ?_);rintro e w4 ⟨rfl, hf4⟩;have HB4 := kq0 hf4 HBGq;have HV4 := jq7 (HVKq.o.keep hf4);have HX4 := kq0 hf4 HXKq;have HY4 := kq0 hf4 HYKq;have HR4 := jq7 (HRKq.o.keep hf4);have HF4 := fq0 HFKq hf4;have e0 : w4.cell? ⟨ga, 0, none⟩ = some (.int .i64 (q : Int)) := Bk.cell HB4.o 0;clear hf4) | ((with_reducible show wkq (.load 36 _) _);refine lr 36 (w.heap.size + 1) (b.map B).toArray HY4.o HIB.o ?_) | (go_at_call 55;(with_reducible refine (HWR.o _ HV4.o).mono ?_);rintro e w5 ⟨rfl, ⟨s5, n5, c5, m5, hv5⟩, hf5⟩;have HVw5 := jq7 hv5;have HB5 := jq7 (hf5.keep HB4.o hgp);have HXw5 := jq7 (hf5.keep HX4.o hXp);have HYw5 := jq7 (hf5.keep HY4.o hYp);have HRw5 := jq7 (RV.past HR4.o hf5 HV4.o.blk);have HFw5 : Jq7 (Fr (fun i => i = p) w w5) := jq7 (HF4.o.trans hf5);have e5 : w5.cell? ⟨ga, 0, none⟩ = some (.int .i64 (q : Int)) := Bk.cell HB5.o 0;clear hv5 hf5))
     have hnb : Bk (w5.alloc (.cells #[.int .i64 ((q : Int) + 1)] 3)) w5.heap.size #[.int .i64 ((q + 1 : Nat) : Int)] 3 := Bk.new _ _
     have HNC : Jq7 ((w5.alloc (.cells #[.int .i64 ((q : Int) + 1)] 3)).cell? ⟨w5.heap.size, 0, none⟩ = some (.int .i64 ((q + 1 : Nat) : Int))) := jq7 (Bk.cell hnb 0)
     have HNB := jq7 hnb
     have hfn : Fr0 w5 (w5.alloc (.cells #[.int .i64 ((q : Int) + 1)] 3)) := Fr.alloc (Fr.refl _ _) _
     have HFN := jq7 hfn
     have hgn : w.heap.size + 1 < w5.heap.size := Bk.lt HYw5.o
     clear hnb hfn
     go_roundw
     case rel => exact ⟨q + 1, w5.heap.size, (writeD dk q b), by omega, by omega, rfl, HNB.o, hgn, ⟨_, _, _, _, HVw5.o.keep HFN.o⟩, HWO.o, HWS.o, HWC.o, HSPn.o, HFN.o.keep HXw5.o (fun h => h), HFN.o.keep HYw5.o (fun h => h), HRw5.o.keep HFN.o, HFw5.o.then0 HFN.o⟩
     case measure =>
      simp only [HME.o, HNC.o]
      omega
    ·have HSPn := jq7 (HSP.o.trans (spareR_end hql2 HUF.o he))
     have he2 : (writeE dk q == 2) = false := by simpa using he
     have he3 : (writeE dk q != 2) = true := by simpa using he
     generalize hee : writeE dk q = ee at *
     clear he HUF
     go_wp2_with (first | (go_at_call 85;(with_reducible refine HCF.o.mono ?_);rintro e w4 ⟨rfl, hf4⟩;have HB4 := kq0 hf4 HBGq;have HV4 := jq7 (HVKq.o.keep hf4);have HX4 := kq0 hf4 HXKq;have HY4 := kq0 hf4 HYKq;have HR4 := jq7 (HRKq.o.keep hf4);have HF4 := fq0 HFKq hf4;have e0 : w4.cell? ⟨ga, 0, none⟩ = some (.int .i64 (q : Int)) := Bk.cell HB4.o 0;clear hf4) | ((with_reducible show wkq (.load 36 _) _);refine lr 36 (w.heap.size + 1) (b.map B).toArray HY4.o HIB.o ?_) | (go_at_call 55;(with_reducible refine (HWR.o _ HV4.o).mono ?_);rintro e w5 ⟨rfl, ⟨s5, n5, c5, m5, hv5⟩, hf5⟩;have HVw5 := jq7 hv5;have HB5 := jq7 (hf5.keep HB4.o hgp);have HXw5 := jq7 (hf5.keep HX4.o hXp);have HYw5 := jq7 (hf5.keep HY4.o hYp);have HRw5 := jq7 (RV.past HR4.o hf5 HV4.o.blk);have HFw5 : Jq7 (Fr (fun i => i = p) w w5) := jq7 (HF4.o.trans hf5);have e5 : w5.cell? ⟨ga, 0, none⟩ = some (.int .i64 (q : Int)) := Bk.cell HB5.o 0;clear hv5 hf5))
     go_ret2
     exact ⟨by rw [HSPn.o];rfl, by rw [HSPn.o];exact ⟨⟨_, _, _, _, HVw5.o⟩, HFw5.o⟩⟩
  ·have hqe : q = 2 * N + 20 := by omega
   subst hqe
   have HSPn : Jq7 (spareR m b 20 (2 * (N : Int)) d = (0, 17, dk)) := jq7 (by rw [HSP.o, Nat.sub_self, spareR])
   go_wp2
   go_quiet (fail)
   go_wp2
   go_ret2
   exact ⟨by rw [HSPn.o];rfl, by rw [HSPn.o];exact ⟨⟨_, _, _, _, HVK.o.keep (Fr.drewN (Fr.refl _ _) nq)⟩, Fr.drewN HFK.o nq⟩⟩

end Go.Proofs.YtmkmpfnadcmcoaaGreatDoor.RmSpare
