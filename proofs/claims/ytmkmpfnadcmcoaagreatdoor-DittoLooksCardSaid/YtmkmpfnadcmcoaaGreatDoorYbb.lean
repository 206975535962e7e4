/- The theorems that the claim uses, text behind text (part 28). -/
import Derived.Test.YtmkmpfnadcmcoaaGreatDoorYao
import Derived.Test.YtmkmpfnadcmcoaaGreatDoorYav
import Derived.Test.YtmkmpfnadcmcoaaGreatDoorYay
import Derived.Test.YtmkmpfnadcmcoaaGreatDoorYaz
import Derived.Test.YtmkmpfnadcmcoaaGreatDoorYba
set_option maxRecDepth 100000
set_option maxHeartbeats 8000000
set_option linter.unusedVariables false
set_option linter.unusedSimpArgs false
namespace Go.Proofs.YtmkmpfnadcmcoaaGreatDoor.RmPair
open Go Go.RowKit K EqKit ArrKit HeldKit GKit GRow DiskKit RmKit MapKit DiskNew RmRight RmRRight RmTab RmPut RmAsk RmSame DiskCopy DiskTwins DiskRRead RmRead RmReads RmAliveP RmAlive RmGreat DiskAct RmSpare RmKeep RmFirst RmWrX RmWrite
theorem RV.pastR {w w1 : World} {m : Rm} {a : Option Addr} {c r : Nat} (h : RV w m a c) (f : Fr (fun i => i = r) w w1) {g : Int} {a' : Option Addr} {n' c' : Nat} (hb : Bk w r (RC g (.slice a' n' c')) 28) : RV w1 m a c :=
 ⟨RdG.later h.rd f (fun x e hl => by
  subst e
  rintro rfl
  have h0 : 0 < m.ps.length := List.length_pos_iff.2 hl
  obtain ⟨b, o, e0, hat⟩ := RdP.form h.rd h0
  cases e0
  have h1 := (hat _ h.rd).2.1
  have h2 := (hat _ h.rd).2.2
  rw [Bk.cell hb] at h1 h2
  generalize o + 0 * 2 = q at *
  rcases (show q = 0 ∨ q = 1 ∨ 2 ≤ q by omega) with rfl | rfl | h4
  ·cases (Option.some.inj h2)
  ·cases (Option.some.inj h1)
  ·rw [Array.getElem?_eq_none (show (RC g (.slice a' n' c')).size ≤ q from h4)] at h1;cases h1), h.len, h.max⟩
def PS (w : World) (p r : Nat) (d : Dk) (m : Rm) : Prop := DIn w p d ∧ ∃ a c, Bk w r (rval m a c) 28 ∧ RV w m a c
theorem PS.keep0 {w w1 : World} {p r : Nat} {d : Dk} {m : Rm} (h : PS w p r d m) (f : Fr0 w w1) : PS w1 p r d m := by
 obtain ⟨h1, a, c, h2, h3⟩ := h
 exact ⟨h1.keep f, a, c, f.keep h2 (fun h => h), h3.keep f⟩
theorem Fr.split {w w1 : World} {p r : Nat} (f : Fr (fun i => i = p ∨ i = r) w w1) : ∃ w0 : World, Fr (fun i => i = p) w w0 ∧ Fr (fun i => i = r) w0 w1 ∧ (∀ i, i ≠ p → i < w.heap.size → w0.heap[i]? = w.heap[i]?) := by
 by_cases hp : p < w.heap.size
 ·by_cases hp1 : p < w1.heap.size
  ·refine ⟨{ w with heap := w.heap.set p w1.heap[p] hp }, ⟨rfl, rfl, rfl, by simp, fun i hi hs => ?_⟩, ⟨f.os, f.tape, f.output, by simpa using f.size, fun i hi hs => ?_⟩, fun i hi hl => ?_⟩
   ·show (w.heap.set p _ hp)[i]? = _
    rw [Array.getElem?_set_ne _ (fun e => hs e.symm)]
   ·show _ = (w.heap.set p _ hp)[i]?
    have hi' : i < w.heap.size := by simpa using hi
    by_cases e : i = p
    ·subst e
     rw [Array.getElem?_set_self, Array.getElem?_eq_getElem hp1]
    ·rw [Array.getElem?_set_ne _ (fun h => e h.symm)]
     exact f.block i hi' (fun h => h.elim e hs)
   ·show (w.heap.set p _ hp)[i]? = _
    rw [Array.getElem?_set_ne _ (fun e => hi e.symm)]
  ·exact absurd (Nat.lt_of_lt_of_le hp f.size) hp1
 ·exact ⟨w, Fr.refl _ _, ⟨f.os, f.tape, f.output, f.size, fun i hi hs => f.block i hi (fun h => h.elim (fun e => hp (e ▸ hi)) hs)⟩, fun _ _ _ => rfl⟩
theorem PS.past {w w1 : World} {p r q s : Nat} {d d0 : Dk} {m m0 : Rm} (h : PS w q s d m) (hok : d.ok) (h0 : PS w p r d0 m0) (f : Fr (fun i => i = p ∨ i = r) w w1) (hpr : r ≠ p) (hqp : q ≠ p) (hqr : q ≠ r) (hsp : s ≠ p) (hsr : s ≠ r) : PS w1 q s d m := by
 obtain ⟨⟨sa, sc, ca, cc, h1⟩, a, c, h2, h3⟩ := h
 obtain ⟨⟨sa0, sc0, ca0, cc0, h01⟩, a0, c0, h02, h03⟩ := h0
 obtain ⟨w0, f1, f2, hk⟩ := Fr.split f
 have hr0 : Bk w0 r (rval m0 a0 c0) 28 := (hk r hpr (Bk.lt h02)).trans h02
 exact ⟨⟨sa, sc, ca, cc, DAt_past (h1.past hok f1 h01.blk (dval_no _ _ _ _ _) hqp) hok f2 hr0 (rc_no _ _ _ _) hqr⟩, a, c, f2.keep (f1.keep h2 hsp) hsr, RV.pastR (RV.past h3 f1 h01.blk) f2 hr0⟩
theorem wrX_ok {d : Dk} {m : Rm} {n : Int} {b : List UInt8} (hok : d.ok) (hm : m.ok) (hn : (Lit.int .i64 n).wf = true) (hb : b.length = 128) : (wrX d m n b).2.1.ok ∧ (wrX d m n b).2.2.ok ∧ (wrX d m n b).2.2.ps.length ≤ m.ps.length + 1 := by
 cases h1 : askedB d m n with
 | false => rw [wrX_no h1];exact ⟨hok, hm, Nat.le_succ _⟩
 | true =>
  have hap := asked_parts h1
  have hl := half_lo hap.2.2.2.2
  have haw := atI_wf hm hn
  have hw := writeD_ok hok hb haw
  by_cases h2 : writeE d (atI m n) = 2
  ·have hs := spareR_ok (m := m) hb 20 (2 * half (d.S.length : Int)) (writeD d (atI m n) b) hw (by omega) (by omega)
   obtain ⟨⟨to, e3, d2⟩, h3⟩ : ∃ x, spareR m b 20 (2 * half (d.S.length : Int)) (writeD d (atI m n) b) = x := ⟨_, rfl⟩
   rw [h3] at hs
   obtain ⟨s1, s2, s3, s4, s5, -⟩ := hs
   by_cases h30 : e3 = 0
   ·have hto : (Lit.int .i64 to).wf = true := wf_small s4 (by show to ≤ _;have h6 : to ≤ 2 * half (d.S.length : Int) + (20 : Nat) := s5;omega)
    by_cases h17 : plc m n < 0 ∧ m.ps.length = 20
    ·rw [wrX_3 h1 rfl h2 h3 h30 h17];exact ⟨s1, hm, Nat.le_succ _⟩
    ·by_cases h4 : flushE d2 = 0
     ·have hk := keepX_ok (m := nextM m n to) (flushD_ok s1)
      have hg := tab_parts hap.1
      by_cases h5 : (keepX (flushD d2) (nextM m n to)).1 = 0
      ·rw [wrX_6 h1 rfl h2 h3 h30 h17 h4 h5];exact ⟨hk.1, nextM_ok hm hn hto (wf_small (by omega) (by omega)), nextM_len _ _ _⟩
      ·rw [wrX_5 h1 rfl h2 h3 h30 h17 h4 h5];exact ⟨hk.1, hm, Nat.le_succ _⟩
     ·rw [wrX_4 h1 rfl h2 h3 h30 h17 h4];exact ⟨flushD_ok s1, hm, Nat.le_succ _⟩
   ·rw [wrX_2 h1 rfl h2 h3 h30];exact ⟨s1, hm, Nat.le_succ _⟩
  ·rw [wrX_1 h1 rfl h2];exact ⟨hw, hm, Nat.le_succ _⟩
theorem PS.of {w : World} {p r : Nat} {d : Dk} {m : Rm} {sa : Option Addr} {sc : Nat} {ca : Option Addr} {cc : Nat} {a : Option Addr} {c : Nat} (h1 : DAt w p d sa sc ca cc) (h2 : Bk w r (rval m a c) 28) (h3 : RV w m a c) : PS w p r d m := ⟨⟨_, _, _, _, h1⟩, _, _, h2, h3⟩

end Go.Proofs.YtmkmpfnadcmcoaaGreatDoor.RmPair
namespace Go.Proofs.YtmkmpfnadcmcoaaGreatDoor.DitKit
open Go Go.RowKit K EqKit ArrKit HeldKit GKit GRow DiskKit RmKit MapKit ShaStep ShaRef ShaSum ShaRSum RmRight RmRRight RmTab RmPut RmAsk RmSame DiskRRead RmRead RmReads DiskAct RmSpare RmKeep RmAliveP RmFirst RmWrX RmWrite RmPair
def usab (n h : Int) : Bool := decide (n = -1) || usableB n h
def homeB (d : Dk) (m : Rm) (a b : Int) (s : List UInt8) : Bool := formedB d && (tabB m (d.S.length : Int) && (PtrAsk.rightB a b s && (usab a (half (d.S.length : Int)) && usab b (half (d.S.length : Int)))))
def rdG (d : Dk) (m : Rm) (a b : Int) (s : List UInt8) (q : Int) : List UInt8 × Bool := ((rdX d m q).1, decide ((rdX d m q).2 = 0) && PtrFitB.fitB a b s (rdX d m q).1)
def healX (d : Dk) (m : Rm) (q : Int) (l : List UInt8) : Int × Int × Dk × Rm := (if (wrX d m q l).1 = 0 then 1 else 0, if (wrX d m q l).1 = 3 then 3 else 0, (wrX d m q l).2.1, (wrX d m q l).2.2)
def getX (d : Dk) (m : Rm) (a b : Int) (s : List UInt8) : (List UInt8 × Int × Int) × Dk × Rm :=
 if homeB d m a b s = false then ((Z128, 0, 1), d, m) else
 if PtrAsk.isH a b s = true then ((Z128, 0, 0), d, m) else
 if d.down = true then ((Z128, 0, 3), d, m) else
 if (rdG d m a b s a).2 = true then (((rdG d m a b s a).1, 0, 0), d, m) else
 if b = -1 then ((Z128, 0, 2), d, m) else
 if (rdG d m a b s b).2 = false then ((Z128, 0, 2), d, m) else
 if (healX d m a (rdG d m a b s b).1).2.1 ≠ 0 then ((Z128, 0, (healX d m a (rdG d m a b s b).1).2.1), (healX d m a (rdG d m a b s b).1).2.2) else
 (((rdG d m a b s b).1, (healX d m a (rdG d m a b s b).1).1, 0), (healX d m a (rdG d m a b s b).1).2.2)
def lookX (d : Dk) (m : Rm) (a b : Int) (s : List UInt8) : ((Int × Int × Int) × Int) × Dk × Rm :=
 if homeB d m a b s = false then (((0, 0, 0), 1), d, m) else
 if PtrAsk.isH a b s = true then (((0, 0, 0), 0), d, m) else
 if d.down = true then (((0, 0, 0), 3), d, m) else
 if b = -1 then (if (rdG d m a b s a).2 = true then (((1, 0, 0), 0), d, m) else (((1, 1, 0), 2), d, m)) else
 if (rdG d m a b s a).2 = true then
  if (rdG d m a b s b).2 = true then (((2, 0, 0), 0), d, m) else
  if (healX d m b (rdG d m a b s a).1).2.1 ≠ 0 then (((0, 0, 0), (healX d m b (rdG d m a b s a).1).2.1), (healX d m b (rdG d m a b s a).1).2.2) else
  (((2, 1, (healX d m b (rdG d m a b s a).1).1), 0), (healX d m b (rdG d m a b s a).1).2.2)
 else
  if (rdG d m a b s b).2 = false then (((2, 2, 0), 2), d, m) else
  if (healX d m a (rdG d m a b s b).1).2.1 ≠ 0 then (((0, 0, 0), (healX d m a (rdG d m a b s b).1).2.1), (healX d m a (rdG d m a b s b).1).2.2) else
  (((2, 1, (healX d m a (rdG d m a b s b).1).1), 0), (healX d m a (rdG d m a b s b).1).2.2)
theorem rdG_len {d : Dk} (h : d.ok) (m : Rm) (a b : Int) (s : List UInt8) (q : Int) : (rdG d m a b s q).1.length = 128 := rdX_len h m q
theorem healX_ok {d : Dk} {m : Rm} {q : Int} {l : List UInt8} (hok : d.ok) (hm : m.ok) (hq : (Lit.int .i64 q).wf = true) (hl : l.length = 128) : (healX d m q l).2.2.1.ok ∧ (healX d m q l).2.2.2.ok ∧ (healX d m q l).2.2.2.ps.length ≤ m.ps.length + 1 := wrX_ok hok hm hq hl
theorem lookX_ok {d : Dk} {m : Rm} {a b : Int} {s : List UInt8} (hok : d.ok) (hm : m.ok) (ha : (Lit.int .i64 a).wf = true) (hb : (Lit.int .i64 b).wf = true) : (lookX d m a b s).2.1.ok ∧ (lookX d m a b s).2.2.ok ∧ (lookX d m a b s).2.2.ps.length ≤ m.ps.length + 1 := by
 have h1 := healX_ok (l := (rdG d m a b s b).1) hok hm ha (rdG_len hok m a b s b)
 have h2 := healX_ok (l := (rdG d m a b s a).1) hok hm hb (rdG_len hok m a b s a)
 have h0 : d.ok ∧ m.ok ∧ m.ps.length ≤ m.ps.length + 1 := ⟨hok, hm, Nat.le_succ _⟩
 unfold lookX
 repeat' split
 all_goals first | exact h0 | exact h1 | exact h2
theorem wrX_C {d : Dk} {m : Rm} {n : Int} {b : List UInt8} (hok : d.ok) (hm : m.ok) (hn : (Lit.int .i64 n).wf = true) (hb : b.length = 128) : (wrX d m n b).2.1.C.length ≤ d.C.length + 23 := by
 cases h1 : askedB d m n with
 | false => rw [wrX_no h1];exact Nat.le_add_right _ _
 | true =>
  have hap := asked_parts h1
  have hl := half_lo hap.2.2.2.2
  have haw := atI_wf hm hn
  have hw := writeD_ok hok hb haw
  have hc := writeD_C d (atI m n) b
  by_cases h2 : writeE d (atI m n) = 2
  ·have hs := spareR_ok (m := m) hb 20 (2 * half (d.S.length : Int)) (writeD d (atI m n) b) hw (by omega) (by omega)
   obtain ⟨⟨to, e3, d2⟩, h3⟩ : ∃ x, spareR m b 20 (2 * half (d.S.length : Int)) (writeD d (atI m n) b) = x := ⟨_, rfl⟩
   rw [h3] at hs
   obtain ⟨s1, s2, s3, s4, s5, -⟩ := hs
   have s1' : d2.ok := s1
   have s3' : d2.C.length ≤ (writeD d (atI m n) b).C.length + 20 := s3
   by_cases h30 : e3 = 0
   ·by_cases h17 : plc m n < 0 ∧ m.ps.length = 20
    ·rw [wrX_3 h1 rfl h2 h3 h30 h17];show d2.C.length ≤ _;omega
    ·have hf := flushD_C d2
     by_cases h4 : flushE d2 = 0
     ·have hk := (keepX_ok (m := nextM m n to) (flushD_ok s1')).2.2
      by_cases h5 : (keepX (flushD d2) (nextM m n to)).1 = 0
      ·rw [wrX_6 h1 rfl h2 h3 h30 h17 h4 h5];exact Nat.le_trans hk (by omega)
      ·rw [wrX_5 h1 rfl h2 h3 h30 h17 h4 h5];exact Nat.le_trans hk (by omega)
     ·rw [wrX_4 h1 rfl h2 h3 h30 h17 h4];show (flushD _).C.length ≤ _;omega
   ·rw [wrX_2 h1 rfl h2 h3 h30];show d2.C.length ≤ _;omega
  ·rw [wrX_1 h1 rfl h2];show (writeD _ _ _).C.length ≤ _;omega
end Go.Proofs.YtmkmpfnadcmcoaaGreatDoor.DitKit
namespace Go.Proofs.YtmkmpfnadcmcoaaGreatDoor.DitAsk
open Go Go.RowKit K EqKit ArrKit HeldKit GKit GRow DiskKit RmKit MapKit ShaStep RmRight RmRRight RmTab RmPut RmAsk RmSame DiskRRead RmRead RmReads DiskAct RmSpare RmKeep RmAliveP RmWrX RmWrite RmPair RowG PtrKit DitKit
theorem usable_calls (n h : Int) (w : World) (hn : (Lit.int .i64 n).wf = true) (hh : 0 ≤ h ∧ h ≤ 2038) : Calls Tryz.prog 41 #[.int .i64 n, .int .i64 h] w fun e w' => e = .returned (.bool (usab n h)) ∧ w' = w := by
 by_cases h0 : n = -1
 ·subst h0
  have e : usab (-1) h = true := rfl
  rw [e]
  go_enter Tryz.func41, Tryz.ntmps41
  go_wp2
  go_ret
  exact ⟨rfl, rfl⟩
 have h0b : (n == -1) = false := by simpa using h0
 have e0 : usab n h = usableB n h := by unfold usab;rw [decide_eq_false h0, Bool.false_or]
 rw [e0]
 by_cases h1 : 0 < h
 case neg =>
  have e : usableB n h = false := by simp [usableB, h1]
  rw [e]
  have hz : h = 0 := by omega
  subst hz
  clear e h1 e0
  go_enter Tryz.func41, Tryz.ntmps41
  go_wp2
  go_ret
  exact ⟨rfl, rfl⟩
 by_cases h2 : 0 ≤ n
 case neg =>
  have e : usableB n h = false := by simp [usableB, h2]
  rw [e]
  clear e e0
  have h2' : n < 0 := by omega
  go_enter Tryz.func41, Tryz.ntmps41
  go_wp2
  go_ret
  exact ⟨rfl, rfl⟩
 by_cases h3 : n < 2 * h
 case neg =>
  have e : usableB n h = false := by simp [usableB, h3]
  rw [e]
  clear e e0
  have h3' : 2 * h ≤ n := by omega
  go_enter Tryz.func41, Tryz.ntmps41
  go_wp2
  go_ret
  exact ⟨rfl, rfl⟩
 have ht : Int.tmod n h = n % h := Int.tmod_eq_emod_of_nonneg h2
 have hnz : ¬ h = 0 := by omega
 have hm := Int.emod_nonneg n hnz
 have hm2 := Int.emod_lt_of_pos n h1
 have e : usableB n h = decide (1 < n % h) := by simp [usableB, h1, h2, h3]
 rw [e]
 clear e e0
 go_enter Tryz.func41, Tryz.ntmps41
 go_wp2
 go_ret
 exact ⟨rfl, rfl⟩
theorem heal_calls (p r : Nat) (d : Dk) (m : Rm) (q : Int) (l : List UInt8) (w : World) (hok : d.ok) (hm : m.ok) (hps : PS w p r d m) (hrp : r ≠ p) (hsh : Sh w) (hq : (Lit.int .i64 q).wf = true) (hl : l.length = 128) (hC : d.C.length ≤ 900) : Calls Tryz.prog 24 #[.pointer (some ⟨p, 0, none⟩), .pointer (some ⟨r, 0, none⟩), .int .i64 q, .agg (l.map B).toArray] w fun e w' => e = .returned (.tuple #[.int .i64 (healX d m q l).1, .int .i64 (healX d m q l).2.1]) ∧ PS w' p r (healX d m q l).2.2.1 (healX d m q l).2.2.2 ∧ Fr (fun i => i = p ∨ i = r) w w' := by
 have HB1 : Jq7 (Bk (w.alloc (.cells (l.map B).toArray 36)) w.heap.size (l.map B).toArray 36) := jq7 (Bk.new w _)
 have hf1 : Fr0 w (w.alloc (.cells (l.map B).toArray 36)) := Fr.alloc (Fr.refl _ _) _
 have HF1 := jq7 hf1
 have HP1 := jq7 (hps.keep0 hf1)
 have HWR : Jq7 (∀ W, Sh W → PS W p r d m → Calls Tryz.prog 31 #[.pointer (some ⟨p, 0, none⟩), .pointer (some ⟨r, 0, none⟩), .int .i64 q, .agg (l.map B).toArray] W fun e w' => e = .returned (.int .i64 (wrX d m q l).1) ∧ PS w' p r (wrX d m q l).2.1 (wrX d m q l).2.2 ∧ Fr (fun i => i = p ∨ i = r) W w') := jq7 (fun W hs h => by
  obtain ⟨⟨sa, sc, ca, cc, h1⟩, a, c, h2, h3⟩ := h
  exact (write_calls p r d sa sc ca cc m a c l q W hok h1 hm h3 hl h2 hrp hs hq hC).mono (fun e w' h => ⟨h.1, ⟨h.2.1, h.2.2.1⟩, h.2.2.2⟩))
 have HSH := jq7 (hsh.keep0 hf1)
 have HIB := jq7 (info_l hl)
 unfold healX
 clear hok hm hps hsh hq hl hC hf1
 generalize (wrX d m q l).2.1 = D1 at *
 generalize (wrX d m q l).2.2 = M1 at *
 generalize (wrX d m q l).1 = E at *
 generalize (l.map B).toArray = X at *
 by_cases e0 : E = 0
 ·subst e0
  go_enter Tryz.func24, Tryz.ntmps24
  go_wp2_with (first | ((with_reducible show wkq (.load 36 _) _);refine lr 36 w.heap.size X HB1.o HIB.o ?_) | (go_at_call 31;(with_reducible refine (HWR.o _ HSH.o HP1.o).mono ?_);rintro e w2 ⟨rfl, hp2, hf2⟩;have HP2 := jq7 hp2;have HF2 := jq7 hf2;clear hp2 hf2))
  go_ret2
  exact ⟨rfl, HP2.o, (HF1.o.weaken (fun _ _ h => h.elim)).trans HF2.o⟩
 have e0b : (E == 0) = false := by simpa using e0
 by_cases e3 : E = 3
 ·subst e3
  go_enter Tryz.func24, Tryz.ntmps24
  go_wp2_with (first | ((with_reducible show wkq (.load 36 _) _);refine lr 36 w.heap.size X HB1.o HIB.o ?_) | (go_at_call 31;(with_reducible refine (HWR.o _ HSH.o HP1.o).mono ?_);rintro e w2 ⟨rfl, hp2, hf2⟩;have HP2 := jq7 hp2;have HF2 := jq7 hf2;clear hp2 hf2))
  go_ret2
  exact ⟨rfl, HP2.o, (HF1.o.weaken (fun _ _ h => h.elim)).trans HF2.o⟩
 have e3b : (E == 3) = false := by simpa using e3
 rw [if_neg e0, if_neg e3]
 clear e0 e3
 go_enter Tryz.func24, Tryz.ntmps24
 go_wp2_with (first | ((with_reducible show wkq (.load 36 _) _);refine lr 36 w.heap.size X HB1.o HIB.o ?_) | (go_at_call 31;(with_reducible refine (HWR.o _ HSH.o HP1.o).mono ?_);rintro e w2 ⟨rfl, hp2, hf2⟩;have HP2 := jq7 hp2;have HF2 := jq7 hf2;clear hp2 hf2))
 go_ret2
 exact ⟨rfl, HP2.o, (HF1.o.weaken (fun _ _ h => h.elim)).trans HF2.o⟩
def FI (x : Int) : List Value := [.int .i64 x]
def copL (a b : Int) : List Int := if b = -1 then [a] else [a, b]
theorem infoI : (Tryz.prog.info? 3).map (fun i => (i.zero, i.size, i.bytes)) = some (some (.int .i64 0), 1, 8) := by kernel_rfl
theorem FI_one (x : Int) : ∀ v ∈ FI x, v.oneCell' = true := fun v hv => by simp only [FI, List.mem_cons, List.not_mem_nil, or_false] at hv;subst hv;rfl
theorem copies_calls (a b : Int) (s : List UInt8) (w : World) (ha : a ≠ -1) : Calls Tryz.prog 22 #[.agg (PC a b s).toArray] w fun e w' => ∃ v, e = .returned v ∧ Row FI 1 3 w' w.heap.size v (copL a b) ∧ Fr0 w w' := by
 have P0 : Jq7 ((PC a b s).toArray[0]? = some (.int .i64 a)) := jq7 rfl
 have P1 : Jq7 ((PC a b s).toArray[1]? = some (.int .i64 b)) := jq7 rfl
 generalize (PC a b s).toArray = X at *
 obtain ⟨i1, hy0, hz0, hz1, hz2⟩ := info_parts infoI
 have HJ : Jq7 (Tryz.prog.info? 3 = some i1 ∧ i1.zero = some (.int .i64 0) ∧ i1.size = 1 ∧ i1.bytes = 8) := jq7 ⟨hy0, hz0, hz1, hz2⟩
 have HX1 : Jq7 (Bk (w.alloc (.cells X 31)) w.heap.size X 31) := jq7 (Bk.new w _)
 have HF1 : Jq7 (Fr0 w (w.alloc (.cells X 31))) := jq7 (Fr.alloc (Fr.refl _ _) _)
 have c0 : (w.alloc (.cells X 31)).cell? ⟨w.heap.size, 0, none⟩ = some (.int .i64 a) := (Bk.cell HX1.o 0).trans P0.o
 have c1 : (w.alloc (.cells X 31)).cell? ⟨w.heap.size, 1, none⟩ = some (.int .i64 b) := (Bk.cell HX1.o 1).trans P1.o
 have hix0 : ∀ W, (Instr.index 85 (.agg #[.int .i64 a, .int .i64 b]) (.int .i64 0)).run Tryz.prog W = .ok (.int .i64 a) W := fun W => ShaStep.index_arr (k := 0) W Tryz.underlying85 (e := 3) (by kernel_rfl) (by kernel_rfl) (by decide) rfl
 have hix1 : ∀ W, (Instr.index 85 (.agg #[.int .i64 a, .int .i64 b]) (.int .i64 1)).run Tryz.prog W = .ok (.int .i64 b) W := fun W => ShaStep.index_arr (k := 1) W Tryz.underlying85 (e := 3) (by kernel_rfl) (by kernel_rfl) (by decide) rfl
 have hab : (a != -1) = true := by simpa using ha
 clear hy0 hz0 hz1 hz2 ha
 by_cases hb : b = -1
 ·have e : copL a b = [a] := by unfold copL;rw [if_pos hb]
  rw [e]
  have hbb : (b != -1) = false := by simpa using hb
  clear e hb
  go_enter Tryz.func22, Tryz.ntmps22
  go_wp2
  have HBK : Jq7 (Bk ((w.alloc (.cells X 31)).alloc (.cells #[.int .i64 a] 3)) (w.heap.size + 1) (FI a).toArray 3) := jq7 (by have h := Bk.new (w.alloc (.cells X 31)) (.cells #[.int .i64 a] 3);rwa [show (w.alloc (.cells X 31)).heap.size = w.heap.size + 1 by simp] at h)
  obtain ⟨v0, hv0⟩ : ∃ v : Value, Value.slice none 0 0 = v := ⟨_, rfl⟩
  have HO0 : Jq7 (Row FI 1 3 (w.alloc (.cells X 31)) w.heap.size v0 []) := jq7 (by rw [← hv0];exact Row.nil _ _)
  rw [hv0]
  clear hv0
  obtain ⟨z0, k0, hz0, -⟩ := HO0.o.form
  have hz1 : v0 = .slice z0 0 k0 := hz0
  clear hz0
  subst hz1
  refine wp_loop_rounds 3 ?_
  rw [rounds_succ]
  go_wp2_with (first | (at_builtin;refine wpList_plain rfl fun K hK => ?_;obtain ⟨v3, w3, hr3, ho3, hf3, -⟩ := Row.append1 (P := Tryz.prog) (f := FI) (k := 1) (e := 3) ((w.alloc (.cells X 31)).alloc (.cells #[.int .i64 a] 3)) 45 45 i1 _ 8 w.heap.size Tryz.underlying45 HJ.o.1 HJ.o.2.1 HJ.o.2.2.1 HJ.o.2.2.2 rfl (by decide) (.slice z0 0 k0) [] (HO0.o.keep0 (Fr.alloc (Fr.refl _ _) _)) (Nat.le_trans (HF1.o).size (by simp)) (fun _ _ => rfl) (w.heap.size + 1) 1 a rfl (FI_one _) HBK.o (by simp) (by simp);obtain ⟨z3, k3, hz3, -⟩ := ho3.form;generalize List.length _ = n3 at hz3;subst hz3;refine GApp.wp_append_run _ _ 45 (by rfl) _ _ _ (by rfl) (by rfl) hr3 ?_;refine hK _ _ ?_;have HO3 := jq7 ho3;have HF3 : Jq7 (Fr0 w w3) := jq7 ((Fr.alloc HF1.o _).then hf3 (fun i hi e => by have h9 := (HO0.o).blk _ e;omega));clear hr3 ho3 hf3))
  rw [rounds_succ]
  go_wp2
  rw [rounds_succ]
  go_wp2
  go_ret
  exact ⟨.slice z3 n3 k3, rfl, HO3.o, HF3.o⟩
 ·have e : copL a b = [a] ++ [b] := by unfold copL;rw [if_neg hb];rfl
  rw [e]
  have hbb : (b != -1) = true := by simpa using hb
  clear e hb
  go_enter Tryz.func22, Tryz.ntmps22
  go_wp2
  have HBK : Jq7 (Bk ((w.alloc (.cells X 31)).alloc (.cells #[.int .i64 a] 3)) (w.heap.size + 1) (FI a).toArray 3) := jq7 (by have h := Bk.new (w.alloc (.cells X 31)) (.cells #[.int .i64 a] 3);rwa [show (w.alloc (.cells X 31)).heap.size = w.heap.size + 1 by simp] at h)
  obtain ⟨v0, hv0⟩ : ∃ v : Value, Value.slice none 0 0 = v := ⟨_, rfl⟩
  have HO0 : Jq7 (Row FI 1 3 (w.alloc (.cells X 31)) w.heap.size v0 []) := jq7 (by rw [← hv0];exact Row.nil _ _)
  rw [hv0]
  clear hv0
  obtain ⟨z0, k0, hz0, -⟩ := HO0.o.form
  have hz1 : v0 = .slice z0 0 k0 := hz0
  clear hz0
  subst hz1
  refine wp_loop_rounds 3 ?_
  rw [rounds_succ]
  go_wp2_with (first | (at_builtin;refine wpList_plain rfl fun K hK => ?_;obtain ⟨v3, w3, hr3, ho3, hf3, -⟩ := Row.append1 (P := Tryz.prog) (f := FI) (k := 1) (e := 3) ((w.alloc (.cells X 31)).alloc (.cells #[.int .i64 a] 3)) 45 45 i1 _ 8 w.heap.size Tryz.underlying45 HJ.o.1 HJ.o.2.1 HJ.o.2.2.1 HJ.o.2.2.2 rfl (by decide) (.slice z0 0 k0) [] (HO0.o.keep0 (Fr.alloc (Fr.refl _ _) _)) (Nat.le_trans (HF1.o).size (by simp)) (fun _ _ => rfl) (w.heap.size + 1) 1 a rfl (FI_one _) HBK.o (by simp) (by simp);obtain ⟨z3, k3, hz3, -⟩ := ho3.form;generalize List.length _ = n3 at hz3;subst hz3;refine GApp.wp_append_run _ _ 45 (by rfl) _ _ _ (by rfl) (by rfl) hr3 ?_;refine hK _ _ ?_;have HO3 := jq7 ho3;have HF3 : Jq7 (Fr0 w w3) := jq7 ((Fr.alloc HF1.o _).then hf3 (fun i hi e => by have h9 := (HO0.o).blk _ e;omega));clear hr3 ho3 hf3))
  rw [rounds_succ]
  go_wp2_with (first | (at_builtin;refine wpList_plain rfl fun K hK => ?_;obtain ⟨v4, w4, hr4, ho4, hf4, -⟩ := Row.append1 (P := Tryz.prog) (f := FI) (k := 1) (e := 3) (w3.alloc (.cells #[.int .i64 b] 3)) 45 45 i1 _ 8 w.heap.size Tryz.underlying45 HJ.o.1 HJ.o.2.1 HJ.o.2.2.1 HJ.o.2.2.2 rfl (by decide) (.slice z3 n3 k3) [a] (HO3.o.keep0 (Fr.alloc (Fr.refl _ _) _)) (Nat.le_trans (HF3.o).size (by simp)) (fun _ _ => rfl) w3.heap.size 1 b rfl (FI_one _) (show Bk (w3.alloc (.cells #[.int .i64 b] 3)) w3.heap.size (FI b).toArray 3 from Bk.new w3 _) (by simp) (by simp);obtain ⟨z4, k4, hz4, -⟩ := ho4.form;generalize List.length _ = n4 at hz4;subst hz4;refine GApp.wp_append_run _ _ 45 (by rfl) _ _ _ (by rfl) (by rfl) hr4 ?_;refine hK _ _ ?_;have HO4 := jq7 ho4;have HF4 : Jq7 (Fr0 w w4) := jq7 ((Fr.alloc HF3.o _).then hf4 (fun i hi e => by have h9 := (HO3.o).blk _ e;omega));clear hr4 ho4 hf4))
  rw [rounds_succ]
  go_wp2
  go_ret
  exact ⟨.slice z4 n4 k4, rfl, HO4.o, HF4.o⟩

end Go.Proofs.YtmkmpfnadcmcoaaGreatDoor.DitAsk
