/- The theorems that the claim uses, text behind text (part 35). -/
import Derived.Test.YtmkmpfnadcmcoaaGreatDoorYbc
import Derived.Test.YtmkmpfnadcmcoaaGreatDoorYbh
set_option maxRecDepth 100000
set_option maxHeartbeats 8000000
set_option linter.unusedVariables false
set_option linter.unusedSimpArgs false
namespace Go.Proofs.YtmkmpfnadcmcoaaGreatDoor.DitRHome
open Go Go.RowKit K EqKit ArrKit HeldKit GKit GRow DiskKit RmKit MapKit ShaStep RmRight RmRRight RmTab RmPut RmAsk RmSame DiskRRead RmRead RmReads DiskAct RmSpare RmKeep RmAliveP RmWrX RmWrite RmPair RowG PtrKit DitKit DitAsk DitHome
theorem rheal_calls (p r : Nat) (d : Dk) (m : Rm) (q : Int) (l : List UInt8) (w : World) (hok : d.ok) (hm : m.ok) (hps : PS w p r d m) (hrp : r ≠ p) (hq : (Lit.int .i64 q).wf = true) (hl : l.length = 128) (hC : d.C.length ≤ 900) : Calls Tryz.prog 27 #[.pointer (some ⟨p, 0, none⟩), .pointer (some ⟨r, 0, none⟩), .int .i64 q, .agg (l.map B).toArray] w fun e w' => e = .returned (.tuple #[.int .i64 (healX d m q l).1, .int .i64 (healX d m q l).2.1]) ∧ PS w' p r (healX d m q l).2.2.1 (healX d m q l).2.2.2 ∧ Fr (fun i => i = p ∨ i = r) w w' := by
 have HB1 : Jq7 (Bk (w.alloc (.cells (l.map B).toArray 36)) w.heap.size (l.map B).toArray 36) := jq7 (Bk.new w _)
 have hf1 : Fr0 w (w.alloc (.cells (l.map B).toArray 36)) := Fr.alloc (Fr.refl _ _) _
 have HF1 := jq7 hf1
 have HP1 := jq7 (hps.keep0 hf1)
 have HWR : Jq7 (∀ W, PS W p r d m → Calls Tryz.prog 52 #[.pointer (some ⟨p, 0, none⟩), .pointer (some ⟨r, 0, none⟩), .int .i64 q, .agg (l.map B).toArray] W fun e w' => e = .returned (.int .i64 (wrX d m q l).1) ∧ PS w' p r (wrX d m q l).2.1 (wrX d m q l).2.2 ∧ Fr (fun i => i = p ∨ i = r) W w') := jq7 (fun W h => by
  obtain ⟨⟨sa, sc, ca, cc, h1⟩, a, c, h2, h3⟩ := h
  exact (RmRWrite.rwrm_calls p r d sa sc ca cc m a c l q W hok h1 hm h3 hl h2 hrp hq hC).mono (fun e w' h => ⟨h.1, ⟨h.2.1, h.2.2.1⟩, h.2.2.2⟩))
 have HIB := jq7 (info_l hl)
 unfold healX
 clear hok hm hps hq hl hC hf1
 generalize (wrX d m q l).2.1 = D1 at *
 generalize (wrX d m q l).2.2 = M1 at *
 generalize (wrX d m q l).1 = E at *
 generalize (l.map B).toArray = X at *
 by_cases e0 : E = 0
 ·subst e0
  go_enter Tryz.func27, Tryz.ntmps27
  go_wp2_with (first | ((with_reducible show wkq (.load 36 _) _);refine lr 36 w.heap.size X HB1.o HIB.o ?_) | (go_at_call 52;(with_reducible refine (HWR.o _ HP1.o).mono ?_);rintro e w2 ⟨rfl, hp2, hf2⟩;have HP2 := jq7 hp2;have HF2 := jq7 hf2;clear hp2 hf2))
  go_ret2
  exact ⟨rfl, HP2.o, (HF1.o.weaken (fun _ _ h => h.elim)).trans HF2.o⟩
 have e0b : (E == 0) = false := by simpa using e0
 by_cases e3 : E = 3
 ·subst e3
  go_enter Tryz.func27, Tryz.ntmps27
  go_wp2_with (first | ((with_reducible show wkq (.load 36 _) _);refine lr 36 w.heap.size X HB1.o HIB.o ?_) | (go_at_call 52;(with_reducible refine (HWR.o _ HP1.o).mono ?_);rintro e w2 ⟨rfl, hp2, hf2⟩;have HP2 := jq7 hp2;have HF2 := jq7 hf2;clear hp2 hf2))
  go_ret2
  exact ⟨rfl, HP2.o, (HF1.o.weaken (fun _ _ h => h.elim)).trans HF2.o⟩
 have e3b : (E == 3) = false := by simpa using e3
 rw [if_neg e0, if_neg e3]
 by_cases e1 : E = 1
 ·subst e1
  clear e0 e3
  go_enter Tryz.func27, Tryz.ntmps27
  go_wp2_with (first | ((with_reducible show wkq (.load 36 _) _);refine lr 36 w.heap.size X HB1.o HIB.o ?_) | (go_at_call 52;(with_reducible refine (HWR.o _ HP1.o).mono ?_);rintro e w2 ⟨rfl, hp2, hf2⟩;have HP2 := jq7 hp2;have HF2 := jq7 hf2;clear hp2 hf2))
  go_ret2
  exact ⟨rfl, HP2.o, (HF1.o.weaken (fun _ _ h => h.elim)).trans HF2.o⟩
 have e1b : (E == 1) = false := by simpa using e1
 clear e1
 clear e0 e3
 go_enter Tryz.func27, Tryz.ntmps27
 go_wp2_with (first | ((with_reducible show wkq (.load 36 _) _);refine lr 36 w.heap.size X HB1.o HIB.o ?_) | (go_at_call 52;(with_reducible refine (HWR.o _ HP1.o).mono ?_);rintro e w2 ⟨rfl, hp2, hf2⟩;have HP2 := jq7 hp2;have HF2 := jq7 hf2;clear hp2 hf2))
 go_ret2
 exact ⟨rfl, HP2.o, (HF1.o.weaken (fun _ _ h => h.elim)).trans HF2.o⟩

theorem rhome_calls (d : Dk) (sa : Option Addr) (sc : Nat) (ca : Option Addr) (cc : Nat) (m : Rm) (ra : Option Addr) (rc : Nat) (a b : Int) (s : List UInt8) (w : World) (hm : m.ok) (hv : DV w d sa sc ca cc) (hrv : RV w m ra rc) (hs : s.length = 32) (ha : (Lit.int .i64 a).wf = true) (hb : (Lit.int .i64 b).wf = true) : Calls Tryz.prog 25 #[.agg (dval d sa sc ca cc), .agg (rval m ra rc), .agg (PC a b s).toArray] w fun e w' => e = .returned (.bool (homeB d m a b s)) ∧ Fr0 w w' := by
 have HFO : Jq7 (∀ W, Fr0 w W → Calls Tryz.prog 45 #[.agg (dval d sa sc ca cc)] W fun e w' => e = .returned (.bool (formedB d)) ∧ Fr0 W w') := jq7 (fun W f => DiskAsk.rformed_calls d sa sc ca cc W (hv.keep f))
 have HRI : Jq7 (∀ W, Fr0 w W → Calls Tryz.prog 46 #[.agg (rval m ra rc), .int .i64 (d.S.length : Int)] W fun e w' => e = .returned (.bool (tabB m (d.S.length : Int))) ∧ Fr0 W w') := jq7 (fun W f => RmRRight.rright_calls m ra rc _ W hm (hrv.keep f) (wf_nat (Nat.le_trans hv.sn hv.sm)))
 have HPR : Jq7 (∀ W, Calls Tryz.prog 47 #[.agg (PC a b s).toArray] W fun e w' => e = .returned (.bool (PtrAsk.rightB a b s)) ∧ Fr0 W w') := jq7 (fun W => PtrRRight.rright_calls a b s W hs ha hb)
 have HHF : Jq7 (∀ W, Calls Tryz.prog 48 #[.int .i64 (d.S.length : Int)] W fun e w' => e = .returned (.int .i64 (half (d.S.length : Int))) ∧ w' = W) := jq7 (fun W => rhalf_calls _ W (wf_nat (Nat.le_trans hv.sn hv.sm)))
 have hhr := half_range (d.S.length : Int)
 have HU1 : Jq7 (∀ W, Calls Tryz.prog 49 #[.int .i64 a, .int .i64 (half (d.S.length : Int))] W fun e w' => e = .returned (.bool (usableB a (half (d.S.length : Int)))) ∧ w' = W) := jq7 (fun W => rusable_calls a _ W ha hhr)
 have HU2 : Jq7 (∀ W, Calls Tryz.prog 49 #[.int .i64 b, .int .i64 (half (d.S.length : Int))] W fun e w' => e = .returned (.bool (usableB b (half (d.S.length : Int)))) ∧ w' = W) := jq7 (fun W => rusable_calls b _ W hb hhr)
 have P0 : Jq7 ((PC a b s).toArray[0]? = some (.int .i64 a)) := jq7 rfl
 have P1 : Jq7 ((PC a b s).toArray[1]? = some (.int .i64 b)) := jq7 rfl
 have D0 : Jq7 ((dval d sa sc ca cc)[0]? = some (.slice sa d.S.length sc)) := jq7 rfl
 have HIP := jq7 (info_ptr a b hs)
 have HID : Jq7 ((Tryz.prog.info? 25).map (·.size) = some (dval d sa sc ca cc).size) := jq7 info_d
 have HIR : Jq7 ((Tryz.prog.info? 28).map (·.size) = some (rval m ra rc).size) := jq7 (info_r _ _)
 unfold homeB usab
 clear hm hv hrv hs ha hb hhr
 generalize (PC a b s).toArray = X at *
 generalize dval d sa sc ca cc = DV0 at *
 generalize rval m ra rc = RV0 at *
 generalize half (d.S.length : Int) = h at *
 generalize usableB a h = u1 at *
 generalize usableB b h = u2 at *
 generalize tabB m (d.S.length : Int) = ta at *
 generalize formedB d = fo at *
 generalize PtrAsk.rightB a b s = ri at *
 have hs1 : (w.alloc (.cells DV0 25)).heap.size = w.heap.size + 1 := by simp
 have hs2 : ((w.alloc (.cells DV0 25)).alloc (.cells RV0 28)).heap.size = w.heap.size + 1 + 1 := by simp
 have HA1 : Jq7 (Bk (((w.alloc (.cells DV0 25)).alloc (.cells RV0 28)).alloc (.cells X 31)) w.heap.size DV0 25) := jq7 (Bk.alloc (Bk.alloc (Bk.new w _) _) _)
 have HB1 : Jq7 (Bk (((w.alloc (.cells DV0 25)).alloc (.cells RV0 28)).alloc (.cells X 31)) (w.heap.size + 1) RV0 28) := jq7 (Bk.alloc (by have := Bk.new (w.alloc (.cells DV0 25)) (.cells RV0 28);rwa [hs1] at this) _)
 have HC1 : Jq7 (Bk (((w.alloc (.cells DV0 25)).alloc (.cells RV0 28)).alloc (.cells X 31)) (w.heap.size + 1 + 1) X 31) := jq7 (by have := Bk.new ((w.alloc (.cells DV0 25)).alloc (.cells RV0 28)) (.cells X 31);rwa [hs2] at this)
 have HF1 : Jq7 (Fr0 w (((w.alloc (.cells DV0 25)).alloc (.cells RV0 28)).alloc (.cells X 31))) := jq7 (Fr.alloc (Fr.alloc (Fr.alloc (Fr.refl _ _) _) _) _)
 clear hs1 hs2
 cases fo with
 | false =>
  go_enter Tryz.func25, Tryz.ntmps25
  go_wp2_with (first | ((with_reducible show wkq (.load 25 _) _);refine lr 25 w.heap.size DV0 HA1.o HID.o ?_) | ((with_reducible show wkq (.load 28 _) _);refine lr 28 (w.heap.size + 1) RV0 HBc.o HIR.o ?_) | ((with_reducible show wkq (.load 31 _) _);refine lr 31 (w.heap.size + 1 + 1) X HCc.o HIP.o ?_) | (go_at_call 45;(with_reducible refine (HFO.o _ HF1.o).mono ?_);rintro e w2 ⟨rfl, hf2⟩;have HAc := kq0 hf2 HA1;have HBc := kq0 hf2 HB1;have HCc := kq0 hf2 HC1;have HFc := fq0 HF1 hf2;have c0 := (Bk.cell HAc.o 0).trans D0.o;have q0 := (Bk.cell HCc.o 0).trans P0.o;have q1 := (Bk.cell HCc.o 1).trans P1.o;clear hf2) | (go_at_call 46;(with_reducible refine (HRI.o _ HFc.o).mono ?_);rintro e w3 ⟨rfl, hf3⟩;replace HAc := kq0 hf3 HAc;replace HBc := kq0 hf3 HBc;replace HCc := kq0 hf3 HCc;replace HFc := fq0 HFc hf3;replace c0 := (Bk.cell HAc.o 0).trans D0.o;replace q0 := (Bk.cell HCc.o 0).trans P0.o;replace q1 := (Bk.cell HCc.o 1).trans P1.o;clear hf3) | (go_at_call 47;(with_reducible refine (HPR.o _).mono ?_);rintro e w4 ⟨rfl, hf4⟩;replace HAc := kq0 hf4 HAc;replace HBc := kq0 hf4 HBc;replace HCc := kq0 hf4 HCc;replace HFc := fq0 HFc hf4;replace c0 := (Bk.cell HAc.o 0).trans D0.o;replace q0 := (Bk.cell HCc.o 0).trans P0.o;replace q1 := (Bk.cell HCc.o 1).trans P1.o;clear hf4) | (go_at_call 48;(with_reducible refine (HHF.o _).mono ?_);rintro e w7 ⟨rfl, rfl⟩) | (go_at_call 49;(with_reducible refine (HU1.o _).mono ?_);rintro e w8 ⟨rfl, rfl⟩) | (go_at_call 49;(with_reducible refine (HU2.o _).mono ?_);rintro e w8 ⟨rfl, rfl⟩))
  go_ret
  exact ⟨rfl, HFc.o⟩
 | true =>
  cases ta with
  | false =>
   go_enter Tryz.func25, Tryz.ntmps25
   go_wp2_with (first | ((with_reducible show wkq (.load 25 _) _);refine lr 25 w.heap.size DV0 HA1.o HID.o ?_) | ((with_reducible show wkq (.load 28 _) _);refine lr 28 (w.heap.size + 1) RV0 HBc.o HIR.o ?_) | ((with_reducible show wkq (.load 31 _) _);refine lr 31 (w.heap.size + 1 + 1) X HCc.o HIP.o ?_) | (go_at_call 45;(with_reducible refine (HFO.o _ HF1.o).mono ?_);rintro e w2 ⟨rfl, hf2⟩;have HAc := kq0 hf2 HA1;have HBc := kq0 hf2 HB1;have HCc := kq0 hf2 HC1;have HFc := fq0 HF1 hf2;have c0 := (Bk.cell HAc.o 0).trans D0.o;have q0 := (Bk.cell HCc.o 0).trans P0.o;have q1 := (Bk.cell HCc.o 1).trans P1.o;clear hf2) | (go_at_call 46;(with_reducible refine (HRI.o _ HFc.o).mono ?_);rintro e w3 ⟨rfl, hf3⟩;replace HAc := kq0 hf3 HAc;replace HBc := kq0 hf3 HBc;replace HCc := kq0 hf3 HCc;replace HFc := fq0 HFc hf3;replace c0 := (Bk.cell HAc.o 0).trans D0.o;replace q0 := (Bk.cell HCc.o 0).trans P0.o;replace q1 := (Bk.cell HCc.o 1).trans P1.o;clear hf3) | (go_at_call 47;(with_reducible refine (HPR.o _).mono ?_);rintro e w4 ⟨rfl, hf4⟩;replace HAc := kq0 hf4 HAc;replace HBc := kq0 hf4 HBc;replace HCc := kq0 hf4 HCc;replace HFc := fq0 HFc hf4;replace c0 := (Bk.cell HAc.o 0).trans D0.o;replace q0 := (Bk.cell HCc.o 0).trans P0.o;replace q1 := (Bk.cell HCc.o 1).trans P1.o;clear hf4) | (go_at_call 48;(with_reducible refine (HHF.o _).mono ?_);rintro e w7 ⟨rfl, rfl⟩) | (go_at_call 49;(with_reducible refine (HU1.o _).mono ?_);rintro e w8 ⟨rfl, rfl⟩) | (go_at_call 49;(with_reducible refine (HU2.o _).mono ?_);rintro e w8 ⟨rfl, rfl⟩))
   go_ret
   exact ⟨rfl, HFc.o⟩
  | true =>
   cases ri with
   | false =>
    go_enter Tryz.func25, Tryz.ntmps25
    go_wp2_with (first | ((with_reducible show wkq (.load 25 _) _);refine lr 25 w.heap.size DV0 HA1.o HID.o ?_) | ((with_reducible show wkq (.load 28 _) _);refine lr 28 (w.heap.size + 1) RV0 HBc.o HIR.o ?_) | ((with_reducible show wkq (.load 31 _) _);refine lr 31 (w.heap.size + 1 + 1) X HCc.o HIP.o ?_) | (go_at_call 45;(with_reducible refine (HFO.o _ HF1.o).mono ?_);rintro e w2 ⟨rfl, hf2⟩;have HAc := kq0 hf2 HA1;have HBc := kq0 hf2 HB1;have HCc := kq0 hf2 HC1;have HFc := fq0 HF1 hf2;have c0 := (Bk.cell HAc.o 0).trans D0.o;have q0 := (Bk.cell HCc.o 0).trans P0.o;have q1 := (Bk.cell HCc.o 1).trans P1.o;clear hf2) | (go_at_call 46;(with_reducible refine (HRI.o _ HFc.o).mono ?_);rintro e w3 ⟨rfl, hf3⟩;replace HAc := kq0 hf3 HAc;replace HBc := kq0 hf3 HBc;replace HCc := kq0 hf3 HCc;replace HFc := fq0 HFc hf3;replace c0 := (Bk.cell HAc.o 0).trans D0.o;replace q0 := (Bk.cell HCc.o 0).trans P0.o;replace q1 := (Bk.cell HCc.o 1).trans P1.o;clear hf3) | (go_at_call 47;(with_reducible refine (HPR.o _).mono ?_);rintro e w4 ⟨rfl, hf4⟩;replace HAc := kq0 hf4 HAc;replace HBc := kq0 hf4 HBc;replace HCc := kq0 hf4 HCc;replace HFc := fq0 HFc hf4;replace c0 := (Bk.cell HAc.o 0).trans D0.o;replace q0 := (Bk.cell HCc.o 0).trans P0.o;replace q1 := (Bk.cell HCc.o 1).trans P1.o;clear hf4) | (go_at_call 48;(with_reducible refine (HHF.o _).mono ?_);rintro e w7 ⟨rfl, rfl⟩) | (go_at_call 49;(with_reducible refine (HU1.o _).mono ?_);rintro e w8 ⟨rfl, rfl⟩) | (go_at_call 49;(with_reducible refine (HU2.o _).mono ?_);rintro e w8 ⟨rfl, rfl⟩))
    go_ret
    exact ⟨rfl, HFc.o⟩
   | true =>
    by_cases ha1 : a = -1
    ·subst ha1
     by_cases hb1 : b = -1
     ·subst hb1
      go_enter Tryz.func25, Tryz.ntmps25
      go_wp2_with (first | ((with_reducible show wkq (.load 25 _) _);refine lr 25 w.heap.size DV0 HA1.o HID.o ?_) | ((with_reducible show wkq (.load 28 _) _);refine lr 28 (w.heap.size + 1) RV0 HBc.o HIR.o ?_) | ((with_reducible show wkq (.load 31 _) _);refine lr 31 (w.heap.size + 1 + 1) X HCc.o HIP.o ?_) | (go_at_call 45;(with_reducible refine (HFO.o _ HF1.o).mono ?_);rintro e w2 ⟨rfl, hf2⟩;have HAc := kq0 hf2 HA1;have HBc := kq0 hf2 HB1;have HCc := kq0 hf2 HC1;have HFc := fq0 HF1 hf2;have c0 := (Bk.cell HAc.o 0).trans D0.o;have q0 := (Bk.cell HCc.o 0).trans P0.o;have q1 := (Bk.cell HCc.o 1).trans P1.o;clear hf2) | (go_at_call 46;(with_reducible refine (HRI.o _ HFc.o).mono ?_);rintro e w3 ⟨rfl, hf3⟩;replace HAc := kq0 hf3 HAc;replace HBc := kq0 hf3 HBc;replace HCc := kq0 hf3 HCc;replace HFc := fq0 HFc hf3;replace c0 := (Bk.cell HAc.o 0).trans D0.o;replace q0 := (Bk.cell HCc.o 0).trans P0.o;replace q1 := (Bk.cell HCc.o 1).trans P1.o;clear hf3) | (go_at_call 47;(with_reducible refine (HPR.o _).mono ?_);rintro e w4 ⟨rfl, hf4⟩;replace HAc := kq0 hf4 HAc;replace HBc := kq0 hf4 HBc;replace HCc := kq0 hf4 HCc;replace HFc := fq0 HFc hf4;replace c0 := (Bk.cell HAc.o 0).trans D0.o;replace q0 := (Bk.cell HCc.o 0).trans P0.o;replace q1 := (Bk.cell HCc.o 1).trans P1.o;clear hf4) | (go_at_call 48;(with_reducible refine (HHF.o _).mono ?_);rintro e w7 ⟨rfl, rfl⟩) | (go_at_call 49;(with_reducible refine (HU1.o _).mono ?_);rintro e w8 ⟨rfl, rfl⟩) | (go_at_call 49;(with_reducible refine (HU2.o _).mono ?_);rintro e w8 ⟨rfl, rfl⟩))
      go_ret
      exact ⟨rfl, HFc.o⟩
     ·have hbb : (b == -1) = false := by simpa using hb1
      go_enter Tryz.func25, Tryz.ntmps25
      go_wp2_with (first | ((with_reducible show wkq (.load 25 _) _);refine lr 25 w.heap.size DV0 HA1.o HID.o ?_) | ((with_reducible show wkq (.load 28 _) _);refine lr 28 (w.heap.size + 1) RV0 HBc.o HIR.o ?_) | ((with_reducible show wkq (.load 31 _) _);refine lr 31 (w.heap.size + 1 + 1) X HCc.o HIP.o ?_) | (go_at_call 45;(with_reducible refine (HFO.o _ HF1.o).mono ?_);rintro e w2 ⟨rfl, hf2⟩;have HAc := kq0 hf2 HA1;have HBc := kq0 hf2 HB1;have HCc := kq0 hf2 HC1;have HFc := fq0 HF1 hf2;have c0 := (Bk.cell HAc.o 0).trans D0.o;have q0 := (Bk.cell HCc.o 0).trans P0.o;have q1 := (Bk.cell HCc.o 1).trans P1.o;clear hf2) | (go_at_call 46;(with_reducible refine (HRI.o _ HFc.o).mono ?_);rintro e w3 ⟨rfl, hf3⟩;replace HAc := kq0 hf3 HAc;replace HBc := kq0 hf3 HBc;replace HCc := kq0 hf3 HCc;replace HFc := fq0 HFc hf3;replace c0 := (Bk.cell HAc.o 0).trans D0.o;replace q0 := (Bk.cell HCc.o 0).trans P0.o;replace q1 := (Bk.cell HCc.o 1).trans P1.o;clear hf3) | (go_at_call 47;(with_reducible refine (HPR.o _).mono ?_);rintro e w4 ⟨rfl, hf4⟩;replace HAc := kq0 hf4 HAc;replace HBc := kq0 hf4 HBc;replace HCc := kq0 hf4 HCc;replace HFc := fq0 HFc hf4;replace c0 := (Bk.cell HAc.o 0).trans D0.o;replace q0 := (Bk.cell HCc.o 0).trans P0.o;replace q1 := (Bk.cell HCc.o 1).trans P1.o;clear hf4) | (go_at_call 48;(with_reducible refine (HHF.o _).mono ?_);rintro e w7 ⟨rfl, rfl⟩) | (go_at_call 49;(with_reducible refine (HU1.o _).mono ?_);rintro e w8 ⟨rfl, rfl⟩) | (go_at_call 49;(with_reducible refine (HU2.o _).mono ?_);rintro e w8 ⟨rfl, rfl⟩))
      go_ret
      exact ⟨by simp [hb1], HFc.o⟩
    ·have hab : (a == -1) = false := by simpa using ha1
     cases u1 with
     | false =>
      go_enter Tryz.func25, Tryz.ntmps25
      go_wp2_with (first | ((with_reducible show wkq (.load 25 _) _);refine lr 25 w.heap.size DV0 HA1.o HID.o ?_) | ((with_reducible show wkq (.load 28 _) _);refine lr 28 (w.heap.size + 1) RV0 HBc.o HIR.o ?_) | ((with_reducible show wkq (.load 31 _) _);refine lr 31 (w.heap.size + 1 + 1) X HCc.o HIP.o ?_) | (go_at_call 45;(with_reducible refine (HFO.o _ HF1.o).mono ?_);rintro e w2 ⟨rfl, hf2⟩;have HAc := kq0 hf2 HA1;have HBc := kq0 hf2 HB1;have HCc := kq0 hf2 HC1;have HFc := fq0 HF1 hf2;have c0 := (Bk.cell HAc.o 0).trans D0.o;have q0 := (Bk.cell HCc.o 0).trans P0.o;have q1 := (Bk.cell HCc.o 1).trans P1.o;clear hf2) | (go_at_call 46;(with_reducible refine (HRI.o _ HFc.o).mono ?_);rintro e w3 ⟨rfl, hf3⟩;replace HAc := kq0 hf3 HAc;replace HBc := kq0 hf3 HBc;replace HCc := kq0 hf3 HCc;replace HFc := fq0 HFc hf3;replace c0 := (Bk.cell HAc.o 0).trans D0.o;replace q0 := (Bk.cell HCc.o 0).trans P0.o;replace q1 := (Bk.cell HCc.o 1).trans P1.o;clear hf3) | (go_at_call 47;(with_reducible refine (HPR.o _).mono ?_);rintro e w4 ⟨rfl, hf4⟩;replace HAc := kq0 hf4 HAc;replace HBc := kq0 hf4 HBc;replace HCc := kq0 hf4 HCc;replace HFc := fq0 HFc hf4;replace c0 := (Bk.cell HAc.o 0).trans D0.o;replace q0 := (Bk.cell HCc.o 0).trans P0.o;replace q1 := (Bk.cell HCc.o 1).trans P1.o;clear hf4) | (go_at_call 48;(with_reducible refine (HHF.o _).mono ?_);rintro e w7 ⟨rfl, rfl⟩) | (go_at_call 49;(with_reducible refine (HU1.o _).mono ?_);rintro e w8 ⟨rfl, rfl⟩) | (go_at_call 49;(with_reducible refine (HU2.o _).mono ?_);rintro e w8 ⟨rfl, rfl⟩))
      go_ret
      exact ⟨by simp [ha1], HFc.o⟩
     | true =>
      by_cases hb1 : b = -1
      ·subst hb1
       go_enter Tryz.func25, Tryz.ntmps25
       go_wp2_with (first | ((with_reducible show wkq (.load 25 _) _);refine lr 25 w.heap.size DV0 HA1.o HID.o ?_) | ((with_reducible show wkq (.load 28 _) _);refine lr 28 (w.heap.size + 1) RV0 HBc.o HIR.o ?_) | ((with_reducible show wkq (.load 31 _) _);refine lr 31 (w.heap.size + 1 + 1) X HCc.o HIP.o ?_) | (go_at_call 45;(with_reducible refine (HFO.o _ HF1.o).mono ?_);rintro e w2 ⟨rfl, hf2⟩;have HAc := kq0 hf2 HA1;have HBc := kq0 hf2 HB1;have HCc := kq0 hf2 HC1;have HFc := fq0 HF1 hf2;have c0 := (Bk.cell HAc.o 0).trans D0.o;have q0 := (Bk.cell HCc.o 0).trans P0.o;have q1 := (Bk.cell HCc.o 1).trans P1.o;clear hf2) | (go_at_call 46;(with_reducible refine (HRI.o _ HFc.o).mono ?_);rintro e w3 ⟨rfl, hf3⟩;replace HAc := kq0 hf3 HAc;replace HBc := kq0 hf3 HBc;replace HCc := kq0 hf3 HCc;replace HFc := fq0 HFc hf3;replace c0 := (Bk.cell HAc.o 0).trans D0.o;replace q0 := (Bk.cell HCc.o 0).trans P0.o;replace q1 := (Bk.cell HCc.o 1).trans P1.o;clear hf3) | (go_at_call 47;(with_reducible refine (HPR.o _).mono ?_);rintro e w4 ⟨rfl, hf4⟩;replace HAc := kq0 hf4 HAc;replace HBc := kq0 hf4 HBc;replace HCc := kq0 hf4 HCc;replace HFc := fq0 HFc hf4;replace c0 := (Bk.cell HAc.o 0).trans D0.o;replace q0 := (Bk.cell HCc.o 0).trans P0.o;replace q1 := (Bk.cell HCc.o 1).trans P1.o;clear hf4) | (go_at_call 48;(with_reducible refine (HHF.o _).mono ?_);rintro e w7 ⟨rfl, rfl⟩) | (go_at_call 49;(with_reducible refine (HU1.o _).mono ?_);rintro e w8 ⟨rfl, rfl⟩) | (go_at_call 49;(with_reducible refine (HU2.o _).mono ?_);rintro e w8 ⟨rfl, rfl⟩))
       go_ret
       exact ⟨by simp [ha1], HFc.o⟩
      ·have hbb : (b == -1) = false := by simpa using hb1
       go_enter Tryz.func25, Tryz.ntmps25
       go_wp2_with (first | ((with_reducible show wkq (.load 25 _) _);refine lr 25 w.heap.size DV0 HA1.o HID.o ?_) | ((with_reducible show wkq (.load 28 _) _);refine lr 28 (w.heap.size + 1) RV0 HBc.o HIR.o ?_) | ((with_reducible show wkq (.load 31 _) _);refine lr 31 (w.heap.size + 1 + 1) X HCc.o HIP.o ?_) | (go_at_call 45;(with_reducible refine (HFO.o _ HF1.o).mono ?_);rintro e w2 ⟨rfl, hf2⟩;have HAc := kq0 hf2 HA1;have HBc := kq0 hf2 HB1;have HCc := kq0 hf2 HC1;have HFc := fq0 HF1 hf2;have c0 := (Bk.cell HAc.o 0).trans D0.o;have q0 := (Bk.cell HCc.o 0).trans P0.o;have q1 := (Bk.cell HCc.o 1).trans P1.o;clear hf2) | (go_at_call 46;(with_reducible refine (HRI.o _ HFc.o).mono ?_);rintro e w3 ⟨rfl, hf3⟩;replace HAc := kq0 hf3 HAc;replace HBc := kq0 hf3 HBc;replace HCc := kq0 hf3 HCc;replace HFc := fq0 HFc hf3;replace c0 := (Bk.cell HAc.o 0).trans D0.o;replace q0 := (Bk.cell HCc.o 0).trans P0.o;replace q1 := (Bk.cell HCc.o 1).trans P1.o;clear hf3) | (go_at_call 47;(with_reducible refine (HPR.o _).mono ?_);rintro e w4 ⟨rfl, hf4⟩;replace HAc := kq0 hf4 HAc;replace HBc := kq0 hf4 HBc;replace HCc := kq0 hf4 HCc;replace HFc := fq0 HFc hf4;replace c0 := (Bk.cell HAc.o 0).trans D0.o;replace q0 := (Bk.cell HCc.o 0).trans P0.o;replace q1 := (Bk.cell HCc.o 1).trans P1.o;clear hf4) | (go_at_call 48;(with_reducible refine (HHF.o _).mono ?_);rintro e w7 ⟨rfl, rfl⟩) | (go_at_call 49;(with_reducible refine (HU1.o _).mono ?_);rintro e w8 ⟨rfl, rfl⟩) | (go_at_call 49;(with_reducible refine (HU2.o _).mono ?_);rintro e w8 ⟨rfl, rfl⟩))
       go_ret
       exact ⟨by simp [ha1, hb1], HFc.o⟩

end Go.Proofs.YtmkmpfnadcmcoaaGreatDoor.DitRHome
namespace Go.Proofs.YtmkmpfnadcmcoaaGreatDoor.DitGood
open Go Go.RowKit K EqKit ArrKit HeldKit GKit GRow DiskKit RmKit MapKit ShaStep RmRight RmRRight RmTab RmPut RmAsk RmSame DiskRRead RmRead RmReads DiskAct RmSpare RmKeep RmAliveP RmWrX RmWrite RmPair RowG PtrKit DitKit DitAsk DitHome
theorem good_calls (p : Nat) (d : Dk) (sa : Option Addr) (sc : Nat) (ca : Option Addr) (cc : Nat) (m : Rm) (ra : Option Addr) (rc : Nat) (a b q : Int) (s : List UInt8) (w : World) (hok : d.ok) (hm : m.ok) (hv : DAt w p d sa sc ca cc) (hrv : RV w m ra rc) (hs : s.length = 32) (ha : (Lit.int .i64 a).wf = true) (hb : (Lit.int .i64 b).wf = true) (hq : (Lit.int .i64 q).wf = true) : Calls Tryz.prog 26 #[.pointer (some ⟨p, 0, none⟩), .agg (rval m ra rc), .agg (PC a b s).toArray, .int .i64 q] w fun e w' => e = .returned (.tuple #[.agg ((rdG d m a b s q).1.map B).toArray, .bool (rdG d m a b s q).2]) ∧ Fr0 w w' := by
 have HRE : Jq7 (∀ W, Fr0 w W → Calls Tryz.prog 50 #[.pointer (some ⟨p, 0, none⟩), .agg (rval m ra rc), .int .i64 q] W fun e w' => e = .returned (readV (rdX d m q)) ∧ Fr0 W w') := jq7 (fun W f => rmrread_calls p d sa sc ca cc m ra rc q W hok (hv.keep f) hm (hrv.keep f) hq)
 have hl := rdX_len hok m q
 have HFI : Jq7 (∀ W, Fr0 w W → Calls Tryz.prog 51 #[.agg (PC a b s).toArray, .agg ((rdX d m q).1.map B).toArray] W fun e w' => e = .returned (.bool (PtrFitB.fitB a b s (rdX d m q).1)) ∧ Fr0 W w') := jq7 (fun W f => PtrFitB.rfits_calls a b s _ W hs hl ha hb)
 have HIP := jq7 (info_ptr a b hs)
 have HIR : Jq7 ((Tryz.prog.info? 28).map (·.size) = some (rval m ra rc).size) := jq7 (info_r _ _)
 have HIL := jq7 (info_l hl)
 have HSL := jq7 (size_l hl)
 have HOL := jq7 (one_l (rdX d m q).1)
 unfold rdG
 unfold readV at HRE
 try simp only at HRE
 generalize PtrFitB.fitB a b s (rdX d m q).1 = fb at *
 generalize ((rdX d m q).1.map B).toArray = LB at *
 generalize (rdX d m q).2 = ee at *
 generalize (PC a b s).toArray = X at *
 generalize rval m ra rc = RV0 at *
 have hs0 : (w.alloc (.cells RV0 28)).heap.size = w.heap.size + 1 := by simp
 have hs1 : ((w.alloc (.cells RV0 28)).alloc (.cells X 31)).heap.size = w.heap.size + 1 + 1 := by simp
 have HF2 : Jq7 (Fr0 w (((w.alloc (.cells RV0 28)).alloc (.cells X 31)).alloc (.cells ZB 36))) := jq7 (Fr.alloc (Fr.alloc (Fr.alloc (Fr.refl _ _) _) _) _)
 have HR2 : Jq7 (Bk (((w.alloc (.cells RV0 28)).alloc (.cells X 31)).alloc (.cells ZB 36)) w.heap.size RV0 28) := jq7 (Bk.alloc (Bk.alloc (Bk.new w _) _) _)
 have HX2 : Jq7 (Bk (((w.alloc (.cells RV0 28)).alloc (.cells X 31)).alloc (.cells ZB 36)) (w.heap.size + 1) X 31) := jq7 (Bk.alloc (by have := Bk.new (w.alloc (.cells RV0 28)) (.cells X 31);rwa [hs0] at this) _)
 have HZ2 : Jq7 (Bk (((w.alloc (.cells RV0 28)).alloc (.cells X 31)).alloc (.cells ZB 36)) (w.heap.size + 1 + 1) ZB 36) := jq7 (by have := Bk.new ((w.alloc (.cells RV0 28)).alloc (.cells X 31)) (.cells ZB 36);rwa [hs1] at this)
 have hzb := zero_bl
 clear hok hm hv hrv hs ha hb hq hl hs0 hs1
 go_enter Tryz.func26, Tryz.ntmps26
 go_wp2_with (first | ((with_reducible show wkq (.load 28 _) _);refine lr 28 w.heap.size RV0 HR2.o HIR.o ?_) | (go_at_call 50;(with_reducible refine (HRE.o _ HF2.o).mono ?_);rintro e w3 ⟨rfl, hf3⟩;have HZ3 := jq7 (Bk.new w3 (.cells ZB 36));have hfx : Fr0 (((w.alloc (.cells RV0 28)).alloc (.cells X 31)).alloc (.cells ZB 36)) ((w3.alloc (.cells ZB 36)).setRow w3.heap.size LB) := hf3.then0 (ArrKit.Fr.row (Fr.alloc (Fr.refl _ _) _) _ _ (.inl (Nat.le_refl _)));have HX4 := kq0 hfx HX2;have HZ4 := kq0 hfx HZ2;have HF4 := fq0 HF2 hfx;have HB4 : Jq7 (Bk ((w3.alloc (.cells ZB 36)).setRow w3.heap.size LB) w3.heap.size LB 36) := jq7 (ArrKit.Bk.row HZ3.o _);have HG4 : Jq7 (w.heap.size + 1 + 1 < w3.heap.size) := jq7 (Bk.lt (hf3.keep HZ2.o (fun h => h)));clear hf3 hfx) | ((with_reducible show wkq (.store 36 _ _) _);refine wpList_store_row rfl 36 _ _ rfl w3.heap.size LB rfl rfl 36 ZB HZ3.o HIL.o HSL.o HOL.o ?_))
 clear HZ3
 generalize ((w3.alloc (.cells ZB 36)).setRow w3.heap.size LB) = w4 at *
 generalize w3.heap.size = g4 at *
 by_cases he0 : ee = 0
 ·subst he0
  refine wp_region_noPanic ?_
  refine wp_region_held_drew (S := (fun W : World => Bk W (w.heap.size + 1) X 31 ∧ Bk W g4 LB 36 ∧ Fr0 w W)) (by kernel_rfl) (⟨Fr.keep (S := fun _ => False) (Fr.drew (Fr.refl _ _)) HX4.o (fun h => h), Fr.keep (S := fun _ => False) (Fr.drew (Fr.refl _ _)) HB4.o (fun h => h), Fr.drew HF4.o⟩) (fun hL0 => ?_)
  have HZ5 : Jq7 (Bk w4.drew (w.heap.size + 1 + 1) ZB 36) := jq7 (Fr.keep (S := fun _ => False) (Fr.drew (Fr.refl _ _)) HZ4.o (fun h => h))
  generalize w4.drew = wd at *
  refine tk (i := 0) (v := .agg LB) rfl (yields_row (by kernel_rfl) 36 _ rfl (g4) rfl 36 LB (0, 0) _ (fun W h => h.2.1) Tryz.underlying36 rfl HIL.o) hL0 ?_
  refine tk0 (i := 1) (v := .int .i64 0) rfl hL0 ?_
  simp only [Act.put,zA,zB,zC,zD,zE,zF]
  refine tk (i := 2) (v := .bool true) rfl (Or.inl ⟨by kernel_rfl, fun w hSw => by go_simp <;> (first | exact beq_iff_eq.1 (by assumption) | exact beq_eq_false_iff_ne.1 (by assumption) | omega)⟩) hL0 ?_
  refine tk0 (i := 3) (v := .bool true) rfl hL0 ?_
  simp only [Act.put,zA,zB,zC,zD,zE,zF]
  refine tk (i := 4) (v := .agg X) rfl (yields_row (by kernel_rfl) 31 _ rfl ((w.heap.size + 1)) rfl 31 X (0, 0) _ (fun W h => h.1) Tryz.underlying31 rfl HIP.o) hL0 ?_
  refine tk (i := 5) (v := .agg LB) rfl (yields_row (by kernel_rfl) 36 _ rfl (g4) rfl 36 LB (0, 0) _ (fun W h => h.2.1) Tryz.underlying36 rfl HIL.o) hL0 ?_
  simp only [Act.put,zA,zB,zC,zD,zE,zF]
  change wpAnyH _ _ _ _ _ 4 #[true, true, true, true, true, true, false, false, false, false] _ _
  refine rd1 6 rfl fun K hK => ?_
  simp only [zA, zB, zC]
  go_wp2_with fail
  refine (HFI.o _ (hL0).2.2).mono ?_
  rintro e wx0 ⟨rfl, hfx0⟩
  dsimp only
  replace HZ5 := kq0 hfx0 HZ5
  refine hK.out _ _ (⟨hfx0.keep (hL0).1 (fun h => h), hfx0.keep (hL0).2.1 (fun h => h), (hL0).2.2.then0 hfx0⟩) (fun hL1 => ?_)
  clear hK K hL0
  clear hfx0
  refine tk0 (i := 7) (v := .bool fb) rfl hL1 ?_
  simp only [Act.put,zA,zB,zC,zD,zE,zF]
  change wpAnyH _ _ _ _ _ 2 #[true, true, true, true, true, true, true, true, false, false] _ _
  refine rd1 8 rfl fun K hK => ?_
  simp only [zA, zB, zC]
  have hg4 := HG4.o
  refine wp_store_row 36 _ _ rfl (w.heap.size + 1 + 1) LB rfl rfl 36 _ HZ5.o HIL.o HSL.o HOL.o ?_
  replace HZ5 : Jq7 (Bk (wx0.setRow (w.heap.size + 1 + 1) LB) (w.heap.size + 1 + 1) LB 36) := jq7 (ArrKit.Bk.row HZ5.o _)
  refine hK.out _ _ (⟨ArrKit.Bk.rowOther (hL1).1 _ (by omega), ArrKit.Bk.rowOther (hL1).2.1 _ (by omega), ArrKit.Fr.row (hL1).2.2 _ _ (.inl (by omega))⟩) (fun hL2 => ?_)
  clear hK K hL1
  generalize (wx0.setRow (w.heap.size + 1 + 1) LB) = wx1 at *
  refine tk0 (i := 9) (v := .bool fb) rfl hL2 ?_
  simp only [Act.put,zA,zB,zC,zD,zE,zF]
  change wpAnyH _ _ _ _ _ 0 #[true, true, true, true, true, true, true, true, true, true] _ _
  refine wpAnyH_done (by kernel_rfl) ?_ _
  refine NoPanic.normal ?_
  have HEND := jq7 hL2
  clear hL2
  go_wp2
  refine fin_ct (w.heap.size + 1 + 1) 36 LB (.bool fb) (by rfl) (by rfl) (by rfl) (by rfl) Tryz.underlying36 (by rfl) HIL.o HZ5.o ?_
  exact ⟨by simp, HEND.o.2.2⟩
 ·have heb : (ee == 0) = false := by simpa using he0
  refine wp_region_noPanic ?_
  refine wp_region_held_drew (S := (fun W : World => Bk W (w.heap.size + 1) X 31 ∧ Bk W g4 LB 36 ∧ Fr0 w W)) (by kernel_rfl) (⟨Fr.keep (S := fun _ => False) (Fr.drew (Fr.refl _ _)) HX4.o (fun h => h), Fr.keep (S := fun _ => False) (Fr.drew (Fr.refl _ _)) HB4.o (fun h => h), Fr.drew HF4.o⟩) (fun hL0 => ?_)
  have HZ5 : Jq7 (Bk w4.drew (w.heap.size + 1 + 1) ZB 36) := jq7 (Fr.keep (S := fun _ => False) (Fr.drew (Fr.refl _ _)) HZ4.o (fun h => h))
  generalize w4.drew = wd at *
  refine tk (i := 0) (v := .agg LB) rfl (yields_row (by kernel_rfl) 36 _ rfl (g4) rfl 36 LB (0, 0) _ (fun W h => h.2.1) Tryz.underlying36 rfl HIL.o) hL0 ?_
  refine tk0 (i := 1) (v := .int .i64 ee) rfl hL0 ?_
  simp only [Act.put,zA,zB,zC,zD,zE,zF]
  refine tk (i := 2) (v := .bool false) rfl (Or.inl ⟨by kernel_rfl, fun w hSw => by go_simp <;> (first | exact beq_iff_eq.1 (by assumption) | exact beq_eq_false_iff_ne.1 (by assumption) | omega)⟩) hL0 ?_
  refine tk0 (i := 3) (v := .bool false) rfl hL0 ?_
  simp only [Act.put,zA,zB,zC,zD,zE,zF]
  refine tk (i := 4) (v := undef) rfl (Or.inr ⟨by kernel_rfl, rfl⟩) hL0 ?_
  refine tk (i := 5) (v := undef) rfl (Or.inr ⟨by kernel_rfl, rfl⟩) hL0 ?_
  simp only [Act.put,zA,zB,zC,zD,zE,zF]
  refine tk (i := 6) (v := undef) rfl (Or.inr ⟨by kernel_rfl, rfl⟩) hL0 ?_
  refine tk0 (i := 7) (v := .bool false) rfl hL0 ?_
  simp only [Act.put,zA,zB,zC,zD,zE,zF]
  change wpAnyH _ _ _ _ _ 2 #[true, true, true, true, true, true, true, true, false, false] _ _
  refine rd1 8 rfl fun K hK => ?_
  simp only [zA, zB, zC]
  have hg4 := HG4.o
  refine wp_store_row 36 _ _ rfl (w.heap.size + 1 + 1) LB rfl rfl 36 _ HZ5.o HIL.o HSL.o HOL.o ?_
  replace HZ5 : Jq7 (Bk (wd.setRow (w.heap.size + 1 + 1) LB) (w.heap.size + 1 + 1) LB 36) := jq7 (ArrKit.Bk.row HZ5.o _)
  refine hK.out _ _ (⟨ArrKit.Bk.rowOther (hL0).1 _ (by omega), ArrKit.Bk.rowOther (hL0).2.1 _ (by omega), ArrKit.Fr.row (hL0).2.2 _ _ (.inl (by omega))⟩) (fun hL1 => ?_)
  clear hK K hL0
  generalize (wd.setRow (w.heap.size + 1 + 1) LB) = wx0 at *
  refine tk0 (i := 9) (v := .bool false) rfl hL1 ?_
  simp only [Act.put,zA,zB,zC,zD,zE,zF]
  change wpAnyH _ _ _ _ _ 0 #[true, true, true, true, true, true, true, true, true, true] _ _
  refine wpAnyH_done (by kernel_rfl) ?_ _
  refine NoPanic.normal ?_
  have HEND := jq7 hL1
  clear hL1
  go_wp2
  refine fin_ct (w.heap.size + 1 + 1) 36 LB (.bool false) (by rfl) (by rfl) (by rfl) (by rfl) Tryz.underlying36 (by rfl) HIL.o HZ5.o ?_
  exact ⟨by rw [decide_eq_false he0];rfl, HEND.o.2.2⟩

end Go.Proofs.YtmkmpfnadcmcoaaGreatDoor.DitGood
