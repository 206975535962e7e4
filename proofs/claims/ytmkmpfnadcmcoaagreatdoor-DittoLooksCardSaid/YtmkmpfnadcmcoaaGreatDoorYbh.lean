/- The theorems that the claim uses, text behind text (part 34). -/
import Derived.Test.YtmkmpfnadcmcoaaGreatDoorYaf
import Derived.Test.YtmkmpfnadcmcoaaGreatDoorYbf
import Derived.Test.YtmkmpfnadcmcoaaGreatDoorYbg
set_option maxRecDepth 100000
set_option maxHeartbeats 8000000
set_option linter.unusedVariables false
set_option linter.unusedSimpArgs false
namespace Go.Proofs.YtmkmpfnadcmcoaaGreatDoor.RmRWrite
open Go Go.RowKit K EqKit ArrKit HeldKit GKit GRow DiskKit RmKit MapKit RmRight RmRRight RmTab RmPut RmRPut RmAsk RmSame DiskRRead RmRead RmReads DiskAct RmSpare RmKeep RmFirst RmAliveP RmWrX RowG RmWrite RmRWith
theorem withM_ok {m : Rm} {n to : Int} (h : m.ok) (hn : (Lit.int .i64 n).wf = true) (ht : (Lit.int .i64 to).wf = true) (hg : (Lit.int .i64 (m.gen + 1)).wf = true) : (withM m n to).ok := by
 refine ⟨hg, fun x hx => ?_⟩
 rcases List.mem_append.1 hx with hx | hx
 ·obtain ⟨y, hy, rfl⟩ := List.mem_map.1 hx
  unfold subP;split
  ·exact ⟨(h.p y hy).1, ht⟩
  ·exact h.p y hy
 ·split at hx
  ·cases hx
  ·simp only [List.mem_cons, List.not_mem_nil, or_false] at hx;subst hx;exact ⟨hn, ht⟩
theorem formed_actD (d : Dk) : formedB (actD d) = formedB d := by
 unfold formedB
 rw [(actD_S2 d).1, (actD_S2 d).2]
theorem formed_writeD {d : Dk} {q : Int} {b : List UInt8} (h : formedB d = true) : formedB (writeD d q b) = true := by
 unfold writeD
 split
 ·exact h
 ·rename_i hr
  split
  ·rw [formed_actD];exact h
  ·split
   ·rw [formed_actD];exact h
   ·unfold formedB at h ⊢
    show (allThere (actD d).S.length (d.C ++ [⟨q, b⟩]) && decide (1 ≤ (actD d).S.length ∧ (actD d).S.length ≤ 4096)) = true
    rw [(actD_S2 d).1]
    rw [Bool.and_eq_true] at h ⊢
    refine ⟨?_, h.2⟩
    have hr2 : rightB d q = true := by simpa using hr
    unfold rightB at hr2
    rw [Bool.and_eq_true] at hr2
    unfold allThere at h ⊢
    rw [List.all_append, h.1]
    simp [hr2.1]
theorem writeE_cases (d : Dk) (q : Int) : writeE d q = 0 ∨ writeE d q = 1 ∨ writeE d q = 2 ∨ writeE d q = 3 := by
 unfold writeE
 split
 ·exact .inr (.inl rfl)
 ·split
  ·exact .inr (.inr (.inr rfl))
  ·split
   ·exact .inr (.inr (.inl rfl))
   ·exact .inl rfl
theorem wr_parts {E E' : Int} {D D' : Dk} {M M' : Rm} (h : (E, D, M) = (E', D', M')) : E = E' ∧ D = D' ∧ M = M' := by
 injection h with h1 h
 injection h with h2 h3
 exact ⟨h1, h2, h3⟩
theorem n0 {x : Int} (h : ¬ x = 0) (k : (x != 0) = false ∨ (x != 2) = false) : x = 2 := by
 simp only [bne_eq_false_iff_eq] at k;omega
theorem nbad {x : Int} (k : (x != 0) = true ∧ (x != 2) = true) : x ≠ 0 ∧ x ≠ 2 := by
 simp only [bne_iff_ne, ne_eq] at k;omega
theorem nt {x : Int} (k : (x != 0) = false) : x = 0 := by simpa using k
theorem ntt {x : Int} (k : (x != 0) = true) : x ≠ 0 := by simpa using k
theorem atI_plc {m : Rm} {n s : Int} (ht : tabB m s = true) (hu : usableB n (half s) = true) : atI m n = n ↔ plc m n < 0 := by
 rcases plc_cases m n with ⟨hp, hno⟩ | ⟨k, hk, hp, hkn, hf⟩
 ·rw [atI_no hno, hp];simp
 ·rw [atI_at hk (by simpa using hkn) hf, hp]
  have h1 := tab_pair ht hk
  have h2 : n < 2 * half s := by
   unfold usableB at hu
   simp only [Bool.and_eq_true, decide_eq_true_eq] at hu
   exact hu.1.2
  constructor
  ·intro e;omega
  ·intro e;omega
theorem rw0 (p r : Nat) (d : Dk) (sa : Option Addr) (sc : Nat) (ca : Option Addr) (cc : Nat) (m : Rm) (a : Option Addr) (c : Nat) (b : List UInt8) (g n : Int) (L : Nat) (w : World) (hg : m.gen = g) (hL : m.ps.length = L) (hok : d.ok) (hv : DAt w p d sa sc ca cc) (hm : m.ok) (hrv : RV w m a c) (hb : b.length = 128) (hR : Bk w r (RC g (.slice a L c)) 28) (hrp : r ≠ p) (hn : (Lit.int .i64 n).wf = true) (hC : d.C.length ≤ 900) (h1 : askedB d m n = false) : Calls Tryz.prog 52 #[.pointer (some ⟨p, 0, none⟩), .pointer (some ⟨r, 0, none⟩), .int .i64 n, .agg (b.map B).toArray] w fun e w' => e = .returned (.int .i64 1) ∧ DIn w' p d ∧ (∃ a' c', Bk w' r (rval m a' c') 28 ∧ RV w' m a' c') ∧ Fr (fun i => i = p ∨ i = r) w w' := by
 have hrr : rval m a c = (RC g (.slice a L c)) := by unfold rval;rw [hg, hL]
 have HRR := jq7 hrr
 have HV := jq7 hv
 have HR := jq7 hR
 have HRV := jq7 hrv
 have hpw : p < w.heap.size := Bk.lt hv.blk
 have hrw : r < w.heap.size := Bk.lt hR
 have HB1 : Jq7 (Bk (w.alloc (.cells (b.map B).toArray 36)) w.heap.size (b.map B).toArray 36) := jq7 (Bk.new w _)
 have HF1 : Jq7 (Fr0 w (w.alloc (.cells (b.map B).toArray 36))) := jq7 (Fr.alloc (Fr.refl _ _) _)
 have HR1 := jq7 (HF1.o.keep hR (fun h => h))
 have HAS : Jq7 (∀ W, Fr0 w W → Calls Tryz.prog 72 #[.agg (dval d sa sc ca cc), .agg (RC g (.slice a L c)), .int .i64 n] W fun e w' => e = .returned (.bool false) ∧ Fr0 W w') := jq7 (fun W f => by have := rasked_calls d sa sc ca cc m a c n W hok (hv.v.keep f) hm (hrv.keep f) hn;rwa [h1, hrr] at this)
 have HIB := jq7 (info_l hb)
 have HIN : Jq7 (∀ x y, (Tryz.prog.info? 28).map (·.size) = some (RC x y).size) := jq7 (fun _ _ => info_r _ _)
 have hzr := zero_r
 have hzb := zero_bl
 clear hrr hok hv hR hrv h1 hb hn hm hC hg hL
 have q1 : w.cell? ⟨r, 1, none⟩ = some (.slice a L c) := Bk.cell HR.o 1
 go_enter Tryz.func52, Tryz.ntmps52
 go_wp2
 refine wp_region_noPanic ?_
 refine wp_region_held_drew (S := (fun W : World => Bk W w.heap.size (b.map B).toArray 36 ∧ Bk W r (RC g (.slice a L c)) 28 ∧ Fr0 w W)) (by kernel_rfl) (⟨HB1.o, HR1.o, Fr.drew HF1.o⟩) (fun hL0 => ?_)
 refine tk0 (i := 0) (v := .pointer (some ⟨p, 0, none⟩)) rfl hL0 ?_
 refine tk0 (i := 1) (v := .pointer (some ⟨p, 0, none⟩)) rfl hL0 ?_
 simp only [Act.put,zA,zB,zC,zD,zE,zF]
 refine tk (i := 2) (v := .agg (dval d sa sc ca cc)) rfl (yields_row (by kernel_rfl) 25 _ rfl (p) rfl 25 (dval d sa sc ca cc) (0, 0) _ (fun W h => (HV.o.keep h.2.2).blk) Tryz.underlying25 rfl info_d) hL0 ?_
 refine tk0 (i := 3) (v := .pointer (some ⟨r, 0, none⟩)) rfl hL0 ?_
 simp only [Act.put,zA,zB,zC,zD,zE,zF]
 refine tk0 (i := 4) (v := .pointer (some ⟨r, 0, none⟩)) rfl hL0 ?_
 refine tk (i := 5) (v := .agg (RC g (.slice a L c))) rfl (yields_row (by kernel_rfl) 28 _ rfl (r) rfl 28 (RC g (.slice a L c)) (0, 0) _ (fun W h => h.2.1) Tryz.underlying28 rfl (HIN.o _ _)) hL0 ?_
 simp only [Act.put,zA,zB,zC,zD,zE,zF]
 refine tk0 (i := 6) (v := .int .i64 n) rfl hL0 ?_
 simp only [Act.put,zA,zB,zC,zD,zE,zF]
 change wpAnyH _ _ _ _ _ 2 #[true, true, true, true, true, true, true, false, false] _ _
 refine rd1 7 rfl fun K hK => ?_
 simp only [zA, zB, zC]
 go_wp2_with fail
 refine (HAS.o _ (hL0).2.2).mono ?_
 rintro e wx0 ⟨rfl, hfx0⟩
 dsimp only
 refine hK.out _ _ (⟨hfx0.keep (hL0).1 (fun h => h), hfx0.keep (hL0).2.1 (fun h => h), (hL0).2.2.then0 hfx0⟩) (fun hL1 => ?_)
 clear hK K hL0
 refine tk (i := 8) (v := .bool true) rfl (Or.inl ⟨by kernel_rfl, fun w hSw => by go_simp <;> (first | exact beq_iff_eq.1 (by assumption) | exact beq_eq_false_iff_ne.1 (by assumption) | omega)⟩) hL1 ?_
 simp only [Act.put,zA,zB,zC,zD,zE,zF]
 change wpAnyH _ _ _ _ _ 0 #[true, true, true, true, true, true, true, true, true] _ _
 refine wpAnyH_done (by kernel_rfl) ?_ _
 refine NoPanic.normal ?_
 have HEND := jq7 hL1
 clear hL1
 go_wp2
 go_ret
 exact ⟨rfl, ⟨_, _, _, _, HV.o.keep HEND.o.2.2⟩, ⟨a, c, by rw [HRR.o];exact HEND.o.2.1, HRV.o.keep HEND.o.2.2⟩, HEND.o.2.2.weaken (fun _ _ h => h.elim)⟩


theorem rw1 (p r : Nat) (d : Dk) (sa : Option Addr) (sc : Nat) (ca : Option Addr) (cc : Nat) (m : Rm) (a : Option Addr) (c : Nat) (b : List UInt8) (g n : Int) (L : Nat) (w : World) (hg : m.gen = g) (hL : m.ps.length = L) (hok : d.ok) (hv : DAt w p d sa sc ca cc) (hm : m.ok) (hrv : RV w m a c) (hb : b.length = 128) (hR : Bk w r (RC g (.slice a L c)) 28) (hrp : r ≠ p) (hn : (Lit.int .i64 n).wf = true) (hC : d.C.length ≤ 900) (h1 : askedB d m n = true) (E0 : Int) (D0 : Dk) (M0 : Rm) (hX : wrX d m n b = (E0, D0, M0)) : Calls Tryz.prog 52 #[.pointer (some ⟨p, 0, none⟩), .pointer (some ⟨r, 0, none⟩), .int .i64 n, .agg (b.map B).toArray] w fun e w' => e = .returned (.int .i64 E0) ∧ DIn w' p D0 ∧ (∃ a' c', Bk w' r (rval M0 a' c') 28 ∧ RV w' M0 a' c') ∧ Fr (fun i => i = p ∨ i = r) w w' := by
 have hrr : rval m a c = (RC g (.slice a L c)) := by unfold rval;rw [hg, hL]
 have HRR := jq7 hrr
 have HV := jq7 hv
 have HR := jq7 hR
 have HRV := jq7 hrv
 have hpw : p < w.heap.size := Bk.lt hv.blk
 have hrw : r < w.heap.size := Bk.lt hR
 have HB1 : Jq7 (Bk (w.alloc (.cells (b.map B).toArray 36)) w.heap.size (b.map B).toArray 36) := jq7 (Bk.new w _)
 have HF1 : Jq7 (Fr0 w (w.alloc (.cells (b.map B).toArray 36))) := jq7 (Fr.alloc (Fr.refl _ _) _)
 have HR1 := jq7 (HF1.o.keep hR (fun h => h))
 have HAS : Jq7 (∀ W, Fr0 w W → Calls Tryz.prog 72 #[.agg (dval d sa sc ca cc), .agg (RC g (.slice a L c)), .int .i64 n] W fun e w' => e = .returned (.bool true) ∧ Fr0 W w') := jq7 (fun W f => by have := rasked_calls d sa sc ca cc m a c n W hok (hv.v.keep f) hm (hrv.keep f) hn;rwa [h1, hrr] at this)
 have HIB := jq7 (info_l hb)
 have HIN : Jq7 (∀ x y, (Tryz.prog.info? 28).map (·.size) = some (RC x y).size) := jq7 (fun _ _ => info_r _ _)
 have hzr := zero_r
 have hzb := zero_bl
 have hap := asked_parts h1
 have h20 : L ≤ 20 := by rw [← hL];exact tab_len hap.1
 have hg0 : 0 ≤ g ∧ g ≤ 4611686018427387904 := by have := tab_parts hap.1;rw [hg] at this;exact ⟨this.2.1, this.2.2.1⟩
 have hln : m.ps.length ≤ 8796093022208 := by omega
 have haw : (Lit.int .i64 (atI m n)).wf = true := atI_wf hm hn
 have HAT : Jq7 (∀ W, RV W m a c → Calls Tryz.prog 74 #[.agg (RC g (.slice a L c)), .int .i64 n] W fun e w' => e = .returned (.int .i64 (atI m n)) ∧ Fr0 W w') := jq7 (fun W hr => by have := rat_calls m a c n W hr hln;rwa [hrr] at this)
 have HWR : Jq7 (∀ W, DAt W p d sa sc ca cc → Calls Tryz.prog 76 #[.pointer (some ⟨p, 0, none⟩), .int .i64 (atI m n), .agg (b.map B).toArray] W fun e w' => e = .returned (.int .i64 (writeE d (atI m n))) ∧ Now W w' p (writeD d (atI m n) b)) := jq7 (fun W h => DiskRWrite.rwrite_calls p (atI m n) b d sa sc ca cc W hok h hb (by omega) haw)
 have ho1 := writeD_ok hok hb haw
 have HO1 := jq7 ho1
 have hlo := half_lo hap.2.2.2.2
 obtain ⟨N, hN⟩ : ∃ N : Nat, half (d.S.length : Int) = N := ⟨(half (d.S.length : Int)).toNat, by omega⟩
 have hNS : d.S.length = 2 * N + 20 := by omega
 have hN4 : 4 ≤ N ∧ N ≤ 2038 := by omega
 have hhv : hvI (writeD d (atI m n) b) = N := by
  unfold hvI
  rw [formed_writeD hap.2.2.2.1, if_pos rfl, writeD_S, hN]
 have HHV : Jq7 (∀ W s1 n1 c1 k1, DAt W p (writeD d (atI m n) b) s1 n1 c1 k1 → Calls Tryz.prog 77 #[.agg (dval (writeD d (atI m n) b) s1 n1 c1 k1)] W fun e w' => e = .returned (.int .i64 (N : Int)) ∧ Fr0 W w') := jq7 (fun W s1 n1 c1 k1 h => by have := rhalves_calls (writeD d (atI m n) b) s1 n1 c1 k1 W ho1 h.v;rwa [hhv] at this)
 have HWS : Jq7 (∀ dk : Dk, ∀ q W s1 n1 c1 k1, dk.ok → dk.C.length ≤ 3000 → (Lit.int .i64 q).wf = true → DAt W p dk s1 n1 c1 k1 → Calls Tryz.prog 76 #[.pointer (some ⟨p, 0, none⟩), .int .i64 q, .agg (b.map B).toArray] W fun e w' => e = .returned (.int .i64 (writeE dk q)) ∧ Now W w' p (writeD dk q b)) := jq7 (fun dk q W s1 n1 c1 k1 ho hc hq h => DiskRWrite.rwrite_calls p q b dk s1 n1 c1 k1 W ho h hb (by omega) hq)
 have HS1 : Jq7 ((writeD d (atI m n) b).S.length = 2 * N + 20) := jq7 (by rw [writeD_S];exact hNS)
 have HC1 : Jq7 ((writeD d (atI m n) b).C.length ≤ 1000) := jq7 (Nat.le_trans (writeD_C d (atI m n) b) (by omega))
 have hpl := atI_plc hap.1 hap.2.1
 have hsp0 : ∀ x, spareR m b 20 (2 * (N : Int)) (writeD d (atI m n) b) = x → spareR m b 20 (2 * half (d.S.length : Int)) (writeD d (atI m n) b) = x := fun x h => by rw [hN];exact h
 have hc0 : ¬ (atI m n = n ∧ L = 20) → ¬ (plc m n < 0 ∧ m.ps.length = 20) := fun h h' => h ⟨hpl.2 h'.1, by omega⟩
 have HX1 : Jq7 (writeE d (atI m n) ≠ 2 → (E0, D0, M0) = (writeE d (atI m n), writeD d (atI m n) b, m)) := jq7 (fun h => hX.symm.trans (wrX_1 h1 rfl h))
 have HX2 : Jq7 (writeE d (atI m n) = 2 → ∀ to e3 d2, spareR m b 20 (2 * (N : Int)) (writeD d (atI m n) b) = (to, e3, d2) → e3 ≠ 0 → (E0, D0, M0) = (e3, d2, m)) := jq7 (fun h to e3 d2 hs k => hX.symm.trans (wrX_2 h1 rfl h (hsp0 _ hs) k))
 have HX3 : Jq7 (writeE d (atI m n) = 2 → ∀ to d2, spareR m b 20 (2 * (N : Int)) (writeD d (atI m n) b) = (to, 0, d2) → atI m n = n → L = 20 → (E0, D0, M0) = (17, d2, m)) := jq7 (fun h to d2 hs k2 k3 => hX.symm.trans (wrX_3 h1 rfl h (hsp0 _ hs) rfl ⟨hpl.1 k2, hL.trans k3⟩))
 have HX4 : Jq7 (writeE d (atI m n) = 2 → ∀ to d2, spareR m b 20 (2 * (N : Int)) (writeD d (atI m n) b) = (to, 0, d2) → ¬ (atI m n = n ∧ L = 20) → flushE d2 ≠ 0 → (E0, D0, M0) = (flushE d2, flushD d2, m)) := jq7 (fun h to d2 hs k2 k4 => hX.symm.trans (wrX_4 h1 rfl h (hsp0 _ hs) rfl (hc0 k2) k4))
 have HX5 : Jq7 (writeE d (atI m n) = 2 → ∀ to d2, spareR m b 20 (2 * (N : Int)) (writeD d (atI m n) b) = (to, 0, d2) → ¬ (atI m n = n ∧ L = 20) → flushE d2 = 0 → (keepX (flushD d2) (withM m n to)).1 ≠ 0 → (E0, D0, M0) = ((keepX (flushD d2) (withM m n to)).1, (keepX (flushD d2) (withM m n to)).2, m)) := jq7 (fun h to d2 hs k2 k4 k5 => by rw [withM_next hap.1] at k5 ⊢;exact hX.symm.trans (wrX_5 h1 rfl h (hsp0 _ hs) rfl (hc0 k2) k4 k5))
 have HX6 : Jq7 (writeE d (atI m n) = 2 → ∀ to d2, spareR m b 20 (2 * (N : Int)) (writeD d (atI m n) b) = (to, 0, d2) → ¬ (atI m n = n ∧ L = 20) → flushE d2 = 0 → (keepX (flushD d2) (withM m n to)).1 = 0 → (E0, D0, M0) = (0, (keepX (flushD d2) (withM m n to)).2, withM m n to)) := jq7 (fun h to d2 hs k2 k4 k5 => by rw [withM_next hap.1] at k5 ⊢;exact hX.symm.trans (wrX_6 h1 rfl h (hsp0 _ hs) rfl (hc0 k2) k4 k5))
 have HWI : Jq7 (∀ W (z : Int), RV W m a c → Calls Tryz.prog 79 #[.agg (RC g (.slice a L c)), .int .i64 n, .int .i64 z] W fun e w' => ∃ a' c', e = .returned (.agg (rval (withM m n z) a' c')) ∧ RowP w' W.heap.size (.slice a' (withM m n z).ps.length c') (withM m n z).ps ∧ Fr0 W w') := jq7 (fun W z hr => by have := with_calls m a c n z W hr (by omega) (by rw [hg];exact hg0);rwa [hrr] at this)
 have HMO : Jq7 (∀ z : Int, (Lit.int .i64 z).wf = true → (withM m n z).ok) := jq7 (fun z hz => withM_ok hm hn hz (by rw [hg];exact wf_small (by omega) (by omega)))
 have HMG : Jq7 (∀ z : Int, (withM m n z).gen = g + 1) := jq7 (fun z => by show m.gen + 1 = _;rw [hg])
 have HHN : Jq7 (half ((2 * N + 20 : Nat) : Int) = N) := jq7 (by rw [← hNS];exact hN)
 have HBL := jq7 hb
 have HLL := jq7 hL
 clear hrr hok hv hR hrv h1 hb hn hm hC hg hL hap hln haw hlo hN hNS hhv ho1 hpl hsp0 hc0 hX
 generalize hq : atI m n = q0a at *
 clear hq
 generalize he1 : writeE d q0a = e1 at *
 generalize hd1 : writeD d q0a b = d1 at *
 clear he1 hd1
 have q1 : w.cell? ⟨r, 1, none⟩ = some (.slice a L c) := Bk.cell HR.o 1
 go_enter Tryz.func52, Tryz.ntmps52
 go_wp2
 refine wp_region_noPanic ?_
 refine wp_region_held_drew (S := (fun W : World => Bk W w.heap.size (b.map B).toArray 36 ∧ Bk W r (RC g (.slice a L c)) 28 ∧ Fr0 w W)) (by kernel_rfl) (⟨HB1.o, HR1.o, Fr.drew HF1.o⟩) (fun hL0 => ?_)
 refine tk0 (i := 0) (v := .pointer (some ⟨p, 0, none⟩)) rfl hL0 ?_
 refine tk0 (i := 1) (v := .pointer (some ⟨p, 0, none⟩)) rfl hL0 ?_
 simp only [Act.put,zA,zB,zC,zD,zE,zF]
 refine tk (i := 2) (v := .agg (dval d sa sc ca cc)) rfl (yields_row (by kernel_rfl) 25 _ rfl (p) rfl 25 (dval d sa sc ca cc) (0, 0) _ (fun W h => (HV.o.keep h.2.2).blk) Tryz.underlying25 rfl info_d) hL0 ?_
 refine tk0 (i := 3) (v := .pointer (some ⟨r, 0, none⟩)) rfl hL0 ?_
 simp only [Act.put,zA,zB,zC,zD,zE,zF]
 refine tk0 (i := 4) (v := .pointer (some ⟨r, 0, none⟩)) rfl hL0 ?_
 refine tk (i := 5) (v := .agg (RC g (.slice a L c))) rfl (yields_row (by kernel_rfl) 28 _ rfl (r) rfl 28 (RC g (.slice a L c)) (0, 0) _ (fun W h => h.2.1) Tryz.underlying28 rfl (HIN.o _ _)) hL0 ?_
 simp only [Act.put,zA,zB,zC,zD,zE,zF]
 refine tk0 (i := 6) (v := .int .i64 n) rfl hL0 ?_
 simp only [Act.put,zA,zB,zC,zD,zE,zF]
 change wpAnyH _ _ _ _ _ 2 #[true, true, true, true, true, true, true, false, false] _ _
 refine rd1 7 rfl fun K hK => ?_
 simp only [zA, zB, zC]
 go_wp2_with fail
 refine (HAS.o _ (hL0).2.2).mono ?_
 rintro e wx0 ⟨rfl, hfx0⟩
 dsimp only
 refine hK.out _ _ (⟨hfx0.keep (hL0).1 (fun h => h), hfx0.keep (hL0).2.1 (fun h => h), (hL0).2.2.then0 hfx0⟩) (fun hL1 => ?_)
 clear hK K hL0
 refine tk (i := 8) (v := .bool false) rfl (Or.inl ⟨by kernel_rfl, fun w hSw => by go_simp <;> (first | exact beq_iff_eq.1 (by assumption) | exact beq_eq_false_iff_ne.1 (by assumption) | omega)⟩) hL1 ?_
 simp only [Act.put,zA,zB,zC,zD,zE,zF]
 change wpAnyH _ _ _ _ _ 0 #[true, true, true, true, true, true, true, true, true] _ _
 refine wpAnyH_done (by kernel_rfl) ?_ _
 refine NoPanic.normal ?_
 have HEND := jq7 hL1
 clear hL1
 go_wp2
 generalize wx0 = w2 at *
 have HB2 := jq7 HEND.o.1
 have HR2 := jq7 HEND.o.2.1
 have HF2 := jq7 HEND.o.2.2
 clear HEND
 refine wp_region_noPanic ?_
 refine wp_region_held_drew (S := (fun W : World => Bk W w.heap.size (b.map B).toArray 36 ∧ Bk W r (RC g (.slice a L c)) 28)) (by kernel_rfl) (⟨HB2.o, HR2.o⟩) (fun hL0 => ?_)
 refine tk0 (i := 0) (v := .pointer (some ⟨p, 0, none⟩)) rfl hL0 ?_
 refine tk0 (i := 1) (v := .pointer (some ⟨r, 0, none⟩)) rfl hL0 ?_
 simp only [Act.put,zA,zB,zC,zD,zE,zF]
 refine tk0 (i := 2) (v := .pointer (some ⟨r, 0, none⟩)) rfl hL0 ?_
 refine tk (i := 3) (v := .agg (RC g (.slice a L c))) rfl (yields_row (by kernel_rfl) 28 _ rfl (r) rfl 28 (RC g (.slice a L c)) (0, 0) _ (fun W h => h.2) Tryz.underlying28 rfl (HIN.o _ _)) hL0 ?_
 simp only [Act.put,zA,zB,zC,zD,zE,zF]
 refine tk0 (i := 4) (v := .int .i64 n) rfl hL0 ?_
 refine tk (i := 6) (v := .agg (b.map B).toArray) rfl (yields_row (by kernel_rfl) 36 _ rfl (w.heap.size) rfl 36 (b.map B).toArray (0, 0) _ (fun W h => h.1) Tryz.underlying36 rfl HIB.o) hL0 ?_
 simp only [Act.put,zA,zB,zC,zD,zE,zF]
 change wpAnyH _ _ _ _ _ 3 #[true, true, true, true, true, false, true, false, false] _ _
 refine rd1 5 rfl fun K hK => ?_
 simp only [zA, zB, zC]
 go_wp2_with fail
 refine (HAT.o _ (HRV.o.keep (Fr.drew HF2.o))).mono ?_
 rintro e wx0 ⟨rfl, hfx0⟩
 dsimp only
 have HF3 : Jq7 (Fr0 w wx0) := jq7 ((Fr.drew HF2.o).then0 hfx0)
 refine hK.out _ _ (⟨hfx0.keep (hL0).1 (fun h => h), hfx0.keep (hL0).2 (fun h => h)⟩) (fun hL1 => ?_)
 clear hK K hL0
 change wpAnyH _ _ _ _ _ 2 #[true, true, true, true, true, true, true, false, false] _ _
 refine rd1 7 rfl fun K hK => ?_
 simp only [zA, zB, zC]
 go_wp2_with fail
 refine (HWR.o _ (HV.o.keep HF3.o)).mono ?_
 rintro e wx1 ⟨rfl, ⟨s4, n4, c4, m4, hv4⟩, hfx1⟩
 dsimp only
 have HV4 := jq7 hv4
 have HRV4 : Jq7 (RV wx1 m a c) := jq7 (RV.past (HRV.o.keep HF3.o) hfx1 (HV.o.keep HF3.o).blk)
 have HF4 : Jq7 (Fr (fun i => i = p) w wx1) := jq7 ((HF3.o.weaken (fun _ _ h => h.elim)).trans hfx1)
 clear hv4
 refine hK.out _ _ (⟨hfx1.keep (hL1).1 (by omega), hfx1.keep (hL1).2 hrp⟩) (fun hL2 => ?_)
 clear hK K hL1
 refine tk0 (i := 8) (v := .int .i64 e1) rfl hL2 ?_
 simp only [Act.put,zA,zB,zC,zD,zE,zF]
 change wpAnyH _ _ _ _ _ 0 #[true, true, true, true, true, true, true, true, true] _ _
 refine wpAnyH_done (by kernel_rfl) ?_ _
 refine NoPanic.normal ?_
 have HEND := jq7 hL2
 clear hL2
 by_cases k2 : e1 = 2
 case neg =>
  have be1 : (e1 != 2) = true := by simpa using k2
  go_wp2
  go_ret
  obtain ⟨rfl, rfl, rfl⟩ := wr_parts (HX1.o k2)
  exact ⟨rfl, ⟨_, _, _, _, HV4.o⟩, ⟨a, c, by rw [HRR.o];exact HEND.o.2, HRV4.o⟩, HF4.o.weaken (fun _ _ h => .inl h)⟩
 subst k2
 generalize wx1 = w4 at *
 have HB4 := jq7 HEND.o.1
 have HR4 := jq7 HEND.o.2
 clear HEND
 go_wp2_with (first | ((with_reducible show wkq (.load 25 _) _);refine lr 25 p (dval d1 s4 n4 c4 m4) HV4.o.blk info_d ?_) | (go_at_call 77;(with_reducible refine (HHV.o _ _ _ _ _ HV4.o).mono ?_);rintro e w5 ⟨rfl, hf5⟩;have HV5 := jq7 (HV4.o.keep hf5);have HB5 := kq0 hf5 HB4;have HR5 := kq0 hf5 HR4;have HRV5 := jq7 (HRV4.o.keep hf5);have HF5 := fq0 HF4 hf5;clear hf5))
 have HSP : Jq7 (spareR m b 20 (2 * (N : Int)) d1 = spareR m b (2 * N + 20 - 2 * N) ((2 * N : Nat) : Int) d1) := jq7 (by rw [show 2 * N + 20 - 2 * N = 20 by omega, show ((2 * N : Nat) : Int) = 2 * (N : Int) by omega])
 rw [show (2 * (N : Int)) = ((2 * N : Nat) : Int) by omega]
 go_loopw [9, 11, 12] (fun ve vt vs W => ∃ (q : Nat) (dk : Dk) (e9 : Int), 2 * N ≤ q ∧ q ≤ 2 * N + 20 ∧ ve = .int .i64 e9 ∧ vs = .int .i64 (q : Int) ∧ ((vt = .int .i64 (-1) ∧ spareR m b 20 (2 * (N : Int)) d1 = spareR m b (2 * N + 20 - q) (q : Int) dk) ∨ (∃ z : Nat, vt = .int .i64 (z : Int) ∧ z < q ∧ spareR m b 20 (2 * (N : Int)) d1 = ((z : Int), 0, dk))) ∧ DIn W p dk ∧ dk.ok ∧ dk.S.length = 2 * N + 20 ∧ dk.C.length ≤ 1000 + (q - 2 * N) ∧ Bk W w.heap.size (b.map B).toArray 36 ∧ Bk W r (RC g (.slice a L c)) 28 ∧ RV W m a c ∧ Fr (fun i => i = p) w W) (fun _ _ vs _ => 2 * N + 20 - (intOf vs).toNat)
 case atStart => exact ⟨2 * N, d1, 2, Nat.le_refl _, by omega, rfl, rfl, .inl ⟨rfl, HSP.o⟩, ⟨_, _, _, _, HV5.o⟩, HO1.o, HS1.o, Nat.le_trans HC1.o (by omega), HB5.o, HR5.o, HRV5.o, HF5.o⟩
 case round =>
  obtain ⟨q, dk, e9, hq1, hq2, rfl, rfl, hcase, ⟨s6, n6, c6, m6, hv6⟩, hok6, hs6, hc6, hb6, hr6, hrv6, hf6⟩ := hrel
  clear HSP HV5 HB5 HR5 HRV5 HF5 HO1 HS1 HC1 HV4 HB4 HR4 HRV4 HF4 HHV HWR HAS
  have HV6 := jq7 hv6
  have HO6 := jq7 hok6
  have HB6 := jq7 hb6
  have HR6 := jq7 hr6
  have HRV6 := jq7 hrv6
  have HF6 := jq7 hf6
  have HS6 := jq7 hs6
  have HW2 : IntKind.i64.wrap (2 * (N : Int)) = 2 * (N : Int) := wr_i _ (by omega) (by omega)
  have HW3 : IntKind.i64.wrap (2 * (N : Int) + 20) = 2 * (N : Int) + 20 := wr_i _ (by omega) (by omega)
  have r1 : wr.cell? ⟨r, 1, none⟩ = some (.slice a L c) := Bk.cell hr6 1
  clear hv6 hok6 hb6 hr6 hrv6 hf6 hs6
  rcases hcase with ⟨rfl, hsp⟩ | ⟨z, rfl, hzq, hsp⟩
  ·have HSP := jq7 hsp
   clear hsp
   by_cases hql : q < 2 * N + 20
   ·have hqb : (q : Int) < 2 * (N : Int) + 20 := by omega
    go_wp2
    go_loop [13, 14] (fun uu jj => ∃ j : Nat, j ≤ L ∧ jj = .int .i64 j ∧ uu = .bool ((m.ps.take j).any (fun p => p.2 == (q : Int)))) (fun _ jj => L - (intOf jj).toNat)
    case atStart => exact ⟨0, Nat.zero_le _, rfl, by simp⟩
    case round =>
     obtain ⟨j, hj, rfl, rfl⟩ := hrel
     by_cases hjl : j < L
     ·have hjm : j < m.ps.length := by rw [HLL.o];exact hjl
      have han := take_succ_any (f := fun p => p.2 == (q : Int)) hjm
      have HJL := jq7 hjl
      generalize hub : (m.ps.take j).any (fun p => p.2 == (q : Int)) = ub at *
      obtain ⟨b2, o2, e2, hat⟩ := RdP.form HRV6.o.rd hjm
      cases e2
      have hcl := (hat _ HRV6.o.rd).2.2
      generalize m.ps[j] = pj at *
      obtain ⟨pf, pt⟩ := pj
      simp only at hcl han
      have HAN := jq7 han
      clear hat han hub
      cases ub with
      | true =>
       go_wp2
       go_round
       case rel => exact ⟨j + 1, by have := HJL.o;omega, by go_num, by rw [HAN.o];rfl⟩
       case measure => have := HJL.o;simp [intOf];omega
      | false =>
       go_wp2
       go_round
       case rel => exact ⟨j + 1, by have := HJL.o;omega, by go_num, by rw [HAN.o, Bool.false_or]⟩
       case measure => have := HJL.o;simp [intOf];omega
     ·have hje : j = L := by omega
      subst hje
      rw [show m.ps.take j = m.ps from List.take_of_length_le (by rw [HLL.o];omega)]
      generalize hus : m.ps.any (fun p => p.2 == (q : Int)) = us at *
      cases us with
      | true =>
       have HSPn := jq7 (HSP.o.trans (spareR_used hql hus))
       clear hus
       go_wp2
       go_roundw
       case rel => exact ⟨q + 1, dk, e9, by omega, by omega, rfl, by go_num, .inl ⟨rfl, HSPn.o⟩, ⟨_, _, _, _, HV6.o⟩, HO6.o, HS6.o, by omega, HB6.o, HR6.o, HRV6.o, HF6.o⟩
       case measure => simp [intOf];omega
      | false =>
       have hqw : (Lit.int .i64 (q : Int)).wf = true := wf_nat (by omega)
       have HWO := jq7 (writeD_ok HO6.o HBL.o hqw)
       have HWL : Jq7 ((writeD dk (q : Int) b).S.length = 2 * N + 20) := jq7 (by rw [writeD_S];exact HS6.o)
       have HWC : Jq7 ((writeD dk (q : Int) b).C.length ≤ 1000 + (q + 1 - 2 * N)) := jq7 (Nat.le_trans (writeD_C dk (q : Int) b) (by omega))
       have HWQ : Jq7 (∀ W s1 n1 c1 k1, DAt W p dk s1 n1 c1 k1 → Calls Tryz.prog 76 #[.pointer (some ⟨p, 0, none⟩), .int .i64 (q : Int), .agg (b.map B).toArray] W fun e w' => e = .returned (.int .i64 (writeE dk (q : Int))) ∧ Now W w' p (writeD dk (q : Int) b)) := jq7 (fun W s1 n1 c1 k1 h => HWS.o dk q W s1 n1 c1 k1 HO6.o (by omega) hqw h)
       rcases writeE_cases dk (q : Int) with he | he | he | he
       ·have HSPn := jq7 (HSP.o.trans (spareR_end hql hus (by omega)))
        rw [he] at HWQ HSPn
        clear hus he
        go_wp2_with (first | ((with_reducible show wkq (.load 36 _) _);refine lr 36 w.heap.size (b.map B).toArray HB6.o HIB.o ?_) | (go_at_call 76;(with_reducible refine (HWQ.o _ _ _ _ _ HV6.o).mono ?_);rintro e w7 ⟨rfl, ⟨s7, n7, c7, m7, hv7⟩, hf7⟩;have HV7 := jq7 hv7;have HB7 := jq7 (hf7.keep HB6.o (by omega));have HR7 := jq7 (hf7.keep HR6.o hrp);have HRV7 := jq7 (RV.past HRV6.o hf7 HV6.o.blk);have HF7 : Jq7 (Fr (fun i => i = p) w w7) := jq7 (HF6.o.trans hf7);clear hv7 hf7))
        refine ⟨?_, ?measure⟩
        (repeat apply Exists.intro)
        refine ⟨?rel, rfl⟩
        case rel => exact ⟨q + 1, writeD dk (q : Int) b, _, by omega, by omega, rfl, by go_num, .inr ⟨q, rfl, by omega, HSPn.o⟩, ⟨_, _, _, _, HV7.o⟩, HWO.o, HWL.o, HWC.o, HB7.o, HR7.o, HRV7.o, HF7.o⟩
        case measure => simp [intOf];omega
       ·have HSPn := jq7 (HSP.o.trans (spareR_end hql hus (by omega)))
        rw [he] at HWQ HSPn
        clear hus he
        go_wp2_with (first | ((with_reducible show wkq (.load 36 _) _);refine lr 36 w.heap.size (b.map B).toArray HB6.o HIB.o ?_) | (go_at_call 76;(with_reducible refine (HWQ.o _ _ _ _ _ HV6.o).mono ?_);rintro e w7 ⟨rfl, ⟨s7, n7, c7, m7, hv7⟩, hf7⟩;have HV7 := jq7 hv7;have HB7 := jq7 (hf7.keep HB6.o (by omega));have HR7 := jq7 (hf7.keep HR6.o hrp);have HRV7 := jq7 (RV.past HRV6.o hf7 HV6.o.blk);have HF7 : Jq7 (Fr (fun i => i = p) w w7) := jq7 (HF6.o.trans hf7);clear hv7 hf7))
        go_ret
        obtain ⟨rfl, rfl, rfl⟩ := wr_parts (HX2.o (by trivial) _ _ _ HSPn.o (by decide))
        exact ⟨rfl, ⟨_, _, _, _, HV7.o⟩, ⟨a, c, by rw [HRR.o];exact HR7.o, HRV7.o⟩, HF7.o.weaken (fun _ _ h => .inl h)⟩
       ·have HSPn := jq7 (HSP.o.trans (spareR_bad hql hus he))
        rw [he] at HWQ
        clear hus he
        go_wp2_with (first | ((with_reducible show wkq (.load 36 _) _);refine lr 36 w.heap.size (b.map B).toArray HB6.o HIB.o ?_) | (go_at_call 76;(with_reducible refine (HWQ.o _ _ _ _ _ HV6.o).mono ?_);rintro e w7 ⟨rfl, ⟨s7, n7, c7, m7, hv7⟩, hf7⟩;have HV7 := jq7 hv7;have HB7 := jq7 (hf7.keep HB6.o (by omega));have HR7 := jq7 (hf7.keep HR6.o hrp);have HRV7 := jq7 (RV.past HRV6.o hf7 HV6.o.blk);have HF7 : Jq7 (Fr (fun i => i = p) w w7) := jq7 (HF6.o.trans hf7);clear hv7 hf7))
        refine ⟨?_, ?measure⟩
        (repeat apply Exists.intro)
        refine ⟨?rel, rfl⟩
        case rel => exact ⟨q + 1, writeD dk (q : Int) b, _, by omega, by omega, rfl, by go_num, .inl ⟨rfl, HSPn.o⟩, ⟨_, _, _, _, HV7.o⟩, HWO.o, HWL.o, HWC.o, HB7.o, HR7.o, HRV7.o, HF7.o⟩
        case measure => simp [intOf];omega
       ·have HSPn := jq7 (HSP.o.trans (spareR_end hql hus (by omega)))
        rw [he] at HWQ HSPn
        clear hus he
        go_wp2_with (first | ((with_reducible show wkq (.load 36 _) _);refine lr 36 w.heap.size (b.map B).toArray HB6.o HIB.o ?_) | (go_at_call 76;(with_reducible refine (HWQ.o _ _ _ _ _ HV6.o).mono ?_);rintro e w7 ⟨rfl, ⟨s7, n7, c7, m7, hv7⟩, hf7⟩;have HV7 := jq7 hv7;have HB7 := jq7 (hf7.keep HB6.o (by omega));have HR7 := jq7 (hf7.keep HR6.o hrp);have HRV7 := jq7 (RV.past HRV6.o hf7 HV6.o.blk);have HF7 : Jq7 (Fr (fun i => i = p) w w7) := jq7 (HF6.o.trans hf7);clear hv7 hf7))
        go_ret
        obtain ⟨rfl, rfl, rfl⟩ := wr_parts (HX2.o (by trivial) _ _ _ HSPn.o (by decide))
        exact ⟨rfl, ⟨_, _, _, _, HV7.o⟩, ⟨a, c, by rw [HRR.o];exact HR7.o, HRV7.o⟩, HF7.o.weaken (fun _ _ h => .inl h)⟩
   ·have hqe : q = 2 * N + 20 := by omega
    subst hqe
    have hqb : ¬ ((2 * N + 20 : Nat) : Int) < 2 * (N : Int) + 20 := by omega
    have hno : spareR m b 20 (2 * (N : Int)) d1 = (0, 17, dk) := by rw [HSP.o, Nat.sub_self, spareR]
    have HNO := jq7 hno
    clear hno HSP
    go_wp2
    go_ret
    obtain ⟨rfl, rfl, rfl⟩ := wr_parts (HX2.o (by trivial) _ _ _ HNO.o (by decide))
    exact ⟨rfl, ⟨_, _, _, _, HV6.o⟩, ⟨a, c, by rw [HRR.o];exact HR6.o, HRV6.o⟩, HF6.o.weaken (fun _ _ h => .inl h)⟩
  ·have HSP := jq7 hsp
   clear hsp
   have hz0 : ¬ ((z : Int) < 0) := by omega
   have hzw : (Lit.int .i64 (z : Int)).wf = true := wf_nat (by omega)
   obtain ⟨gn, hgn⟩ : ∃ gn : Nat, g + 1 = (gn : Int) := ⟨(g + 1).toNat, by omega⟩
   obtain ⟨L1, hL1⟩ : ∃ L1, (withM m n (z : Int)).ps.length = L1 := ⟨_, rfl⟩
   have hng : (withM m n (z : Int)).gen = gn := by rw [HMG.o, hgn]
   have hrn : ∀ a' c', rval (withM m n (z : Int)) a' c' = RC (gn : Int) (.slice a' L1 c') := fun a' c' => by unfold rval;rw [hng, hL1]
   have HRN := jq7 hrn
   have HWZ : Jq7 (∀ W, RV W m a c → Calls Tryz.prog 79 #[.agg (RC g (.slice a L c)), .int .i64 n, .int .i64 (z : Int)] W fun e w' => ∃ a' c', e = .returned (.agg (RC (gn : Int) (.slice a' L1 c'))) ∧ RowP w' W.heap.size (.slice a' L1 c') (withM m n (z : Int)).ps ∧ Fr0 W w') := jq7 (fun W hr => by have := HWI.o W (z : Int) hr;simp only [hrn, hL1] at this;exact this)
   have HFL : Jq7 (∀ W s1 n1 c1 k1, DAt W p dk s1 n1 c1 k1 → Calls Tryz.prog 78 #[.pointer (some ⟨p, 0, none⟩)] W fun e w' => e = .returned (.int .i64 (flushE dk)) ∧ Now W w' p (flushD dk)) := jq7 (fun W s1 n1 c1 k1 h => DiskRFlush.rflush_calls p dk s1 n1 c1 k1 W HO6.o h)
   have h4o := flushD_ok HO6.o
   have HS4 : Jq7 ((flushD dk).S.length = 2 * N + 20) := jq7 ((flushD_S dk).trans HS6.o)
   have h4c : (flushD dk).C.length ≤ 2000 := Nat.le_trans (flushD_C dk) (by omega)
   have HPU : Jq7 (∀ W a' c', RV W (withM m n (z : Int)) a' c' → Calls Tryz.prog 80 #[.agg (RC (gn : Int) (.slice a' L1 c')), .int .i64 (2 * (N : Int) + 20)] W fun e w' => e = .returned (.tuple #[.agg ((tabX (withM m n (z : Int)) ((2 * N + 20 : Nat) : Int)).map B).toArray, .int .i64 (tabE (withM m n (z : Int)) ((2 * N + 20 : Nat) : Int))]) ∧ Fr0 W w') := jq7 (fun W a' c' h => by
    have := rput_calls (withM m n (z : Int)) a' c' ((2 * N + 20 : Nat) : Int) W (HMO.o _ hzw) h (wf_nat (by omega))
    rwa [hrn, show ((2 * N + 20 : Nat) : Int) = 2 * (N : Int) + 20 by omega] at this)
   have HTL := jq7 (tabX_len (withM m n (z : Int)) ((2 * N + 20 : Nat) : Int))
   have HIL := jq7 (info_l HTL.o)
   have HSL := jq7 (size_l HTL.o)
   have HOL := jq7 (one_l (tabX (withM m n (z : Int)) ((2 * N + 20 : Nat) : Int)))
   obtain ⟨g2, hg2⟩ : ∃ g2 : Nat, gn % 2 = g2 := ⟨_, rfl⟩
   have hmod : Int.tmod (gn : Int) 2 = (g2 : Int) := by rw [show (2 : Int) = ((2 : Nat) : Int) from rfl, ← Int.ofNat_tmod, hg2]
   have hg22 : g2 < 2 := by omega
   have hmod0 : (withM m n (z : Int)).gen % 2 = (g2 : Int) := by rw [hng];omega
   have hadd : IntKind.i64.wrap ((N : Int) + (g2 : Int)) = (N : Int) + (g2 : Int) := wr_i _ (by omega) (by omega)
   have hQ : half ((flushD dk).S.length : Int) + (g2 : Int) = (N : Int) + (g2 : Int) := by rw [HS4.o, HHN.o]
   have hwq1 : (Lit.int .i64 (g2 : Int)).wf = true := wf_nat (by omega)
   have hwq2 : (Lit.int .i64 ((N : Int) + (g2 : Int))).wf = true := by rw [show (N : Int) + (g2 : Int) = ((N + g2 : Nat) : Int) by omega];exact wf_nat (by omega)
   have HW1 : Jq7 (∀ W s1 n1 c1 k1, DAt W p (flushD dk) s1 n1 c1 k1 → Calls Tryz.prog 76 #[.pointer (some ⟨p, 0, none⟩), .int .i64 (g2 : Int), .agg ((tabX (withM m n (z : Int)) ((2 * N + 20 : Nat) : Int)).map B).toArray] W fun e w' => e = .returned (.int .i64 (writeE (flushD dk) g2)) ∧ Now W w' p (writeD (flushD dk) g2 (tabX (withM m n (z : Int)) ((2 * N + 20 : Nat) : Int)))) := jq7 (fun W s1 n1 c1 k1 h => DiskRWrite.rwrite_calls p g2 (tabX (withM m n (z : Int)) ((2 * N + 20 : Nat) : Int)) (flushD dk) s1 n1 c1 k1 W h4o h HTL.o (by omega) hwq1)
   have hoa := writeD_ok h4o HTL.o hwq1
   have hca := Nat.le_trans (writeD_C (flushD dk) g2 (tabX (withM m n (z : Int)) ((2 * N + 20 : Nat) : Int))) (Nat.add_le_add_right h4c 1)
   have HW2 : Jq7 (∀ W s1 n1 c1 k1, DAt W p (writeD (flushD dk) g2 (tabX (withM m n (z : Int)) ((2 * N + 20 : Nat) : Int))) s1 n1 c1 k1 → Calls Tryz.prog 76 #[.pointer (some ⟨p, 0, none⟩), .int .i64 ((N : Int) + (g2 : Int)), .agg ((tabX (withM m n (z : Int)) ((2 * N + 20 : Nat) : Int)).map B).toArray] W fun e w' => e = .returned (.int .i64 (writeE (writeD (flushD dk) g2 (tabX (withM m n (z : Int)) ((2 * N + 20 : Nat) : Int))) ((N : Int) + (g2 : Int)))) ∧ Now W w' p (writeD (writeD (flushD dk) g2 (tabX (withM m n (z : Int)) ((2 * N + 20 : Nat) : Int))) ((N : Int) + (g2 : Int)) (tabX (withM m n (z : Int)) ((2 * N + 20 : Nat) : Int)))) := jq7 (fun W s1 n1 c1 k1 h => DiskRWrite.rwrite_calls p _ (tabX (withM m n (z : Int)) ((2 * N + 20 : Nat) : Int)) _ s1 n1 c1 k1 W hoa h HTL.o (by omega) hwq2)
   have hob := writeD_ok hoa HTL.o hwq2
   have HFL2 : Jq7 (∀ W s1 n1 c1 k1, DAt W p (writeD (writeD (flushD dk) g2 (tabX (withM m n (z : Int)) ((2 * N + 20 : Nat) : Int))) ((N : Int) + (g2 : Int)) (tabX (withM m n (z : Int)) ((2 * N + 20 : Nat) : Int))) s1 n1 c1 k1 → Calls Tryz.prog 78 #[.pointer (some ⟨p, 0, none⟩)] W fun e w' => e = .returned (.int .i64 (flushE (writeD (writeD (flushD dk) g2 (tabX (withM m n (z : Int)) ((2 * N + 20 : Nat) : Int))) ((N : Int) + (g2 : Int)) (tabX (withM m n (z : Int)) ((2 * N + 20 : Nat) : Int))))) ∧ Now W w' p (flushD (writeD (writeD (flushD dk) g2 (tabX (withM m n (z : Int)) ((2 * N + 20 : Nat) : Int))) ((N : Int) + (g2 : Int)) (tabX (withM m n (z : Int)) ((2 * N + 20 : Nat) : Int))))) := jq7 (fun W s1 n1 c1 k1 h => DiskRFlush.rflush_calls p _ s1 n1 c1 k1 W hob h)
   have HFO := jq7 (flushD_ok hob)
   have X3 : Jq7 (q0a = n → L = 20 → (E0, D0, M0) = (17, dk, m)) := jq7 (HX3.o (by trivial) _ _ HSP.o)
   have X4 : Jq7 (¬ (q0a = n ∧ L = 20) → flushE dk ≠ 0 → (E0, D0, M0) = (flushE dk, (flushD dk), m)) := jq7 (HX4.o (by trivial) _ _ HSP.o)
   have X5 := HX5.o (by trivial) _ _ HSP.o
   have X6 := HX6.o (by trivial) _ _ HSP.o
   have hno : tabE (withM m n (z : Int)) ((2 * N + 20 : Nat) : Int) ≠ 0 → keepX (flushD dk) (withM m n (z : Int)) = (tabE (withM m n (z : Int)) ((2 * N + 20 : Nat) : Int), (flushD dk)) := fun h => by
    have ht : tabB (withM m n (z : Int)) ((2 * N + 20 : Nat) : Int) = false := by
     cases hb : tabB (withM m n (z : Int)) ((2 * N + 20 : Nat) : Int) with
     | false => rfl
     | true => exact absurd (by unfold tabE;rw [if_pos hb]) h
    rw [keepX_no (by rw [HS4.o];exact ht)]
    unfold tabE;rw [if_neg (by rw [ht];decide)]
   have X7 : Jq7 (¬ (q0a = n ∧ L = 20) → flushE dk = 0 → tabE (withM m n (z : Int)) ((2 * N + 20 : Nat) : Int) ≠ 0 → (E0, D0, M0) = (tabE (withM m n (z : Int)) ((2 * N + 20 : Nat) : Int), (flushD dk), m)) := jq7 (fun k1 k2 k3 => by have := X5 k1 k2;rw [hno k3] at this;exact this k3)
   have hyes : tabE (withM m n (z : Int)) ((2 * N + 20 : Nat) : Int) = 0 → tabB (withM m n (z : Int)) ((flushD dk).S.length : Int) = true ∧ (tabX (withM m n (z : Int)) ((2 * N + 20 : Nat) : Int)) = tabL (withM m n (z : Int)) := fun h => by
    have ht : tabB (withM m n (z : Int)) ((2 * N + 20 : Nat) : Int) = true := by
     cases hb : tabB (withM m n (z : Int)) ((2 * N + 20 : Nat) : Int) with
     | true => rfl
     | false => unfold tabE at h;rw [if_neg (by rw [hb];decide)] at h;cases h
    exact ⟨by rw [HS4.o];exact ht, by unfold tabX;rw [if_pos ht]⟩
   have k1f : tabE (withM m n (z : Int)) ((2 * N + 20 : Nat) : Int) = 0 → writeE (flushD dk) g2 ≠ 0 → writeE (flushD dk) g2 ≠ 2 → keepX (flushD dk) (withM m n (z : Int)) = (writeE (flushD dk) g2, writeD (flushD dk) g2 (tabX (withM m n (z : Int)) ((2 * N + 20 : Nat) : Int))) := fun h => by rw [(hyes h).2];exact @keepX_1 (flushD dk) (withM m n (z : Int)) (writeE (flushD dk) g2) g2 ((N : Int) + g2) _ (hyes h).1 hmod0 hQ rfl rfl
   have k2f : tabE (withM m n (z : Int)) ((2 * N + 20 : Nat) : Int) = 0 → (writeE (flushD dk) g2 = 0 ∨ writeE (flushD dk) g2 = 2) → writeE (writeD (flushD dk) g2 (tabX (withM m n (z : Int)) ((2 * N + 20 : Nat) : Int))) ((N : Int) + g2) ≠ 0 → writeE (writeD (flushD dk) g2 (tabX (withM m n (z : Int)) ((2 * N + 20 : Nat) : Int))) ((N : Int) + g2) ≠ 2 → keepX (flushD dk) (withM m n (z : Int)) = (writeE (writeD (flushD dk) g2 (tabX (withM m n (z : Int)) ((2 * N + 20 : Nat) : Int))) ((N : Int) + g2), writeD (writeD (flushD dk) g2 (tabX (withM m n (z : Int)) ((2 * N + 20 : Nat) : Int))) ((N : Int) + g2) (tabX (withM m n (z : Int)) ((2 * N + 20 : Nat) : Int))) := fun h => by rw [(hyes h).2];exact @keepX_2 (flushD dk) (withM m n (z : Int)) (writeE (flushD dk) g2) _ g2 ((N : Int) + g2) _ _ (hyes h).1 hmod0 hQ rfl rfl rfl rfl
   have k22f : tabE (withM m n (z : Int)) ((2 * N + 20 : Nat) : Int) = 0 → (writeE (flushD dk) g2 = 0 ∨ writeE (flushD dk) g2 = 2) → writeE (flushD dk) g2 = 2 → writeE (writeD (flushD dk) g2 (tabX (withM m n (z : Int)) ((2 * N + 20 : Nat) : Int))) ((N : Int) + g2) = 2 → keepX (flushD dk) (withM m n (z : Int)) = (2, writeD (writeD (flushD dk) g2 (tabX (withM m n (z : Int)) ((2 * N + 20 : Nat) : Int))) ((N : Int) + g2) (tabX (withM m n (z : Int)) ((2 * N + 20 : Nat) : Int))) := fun h => by rw [(hyes h).2];exact @keepX_22 (flushD dk) (withM m n (z : Int)) (writeE (flushD dk) g2) _ g2 ((N : Int) + g2) _ _ (hyes h).1 hmod0 hQ rfl rfl rfl rfl
   have kff : tabE (withM m n (z : Int)) ((2 * N + 20 : Nat) : Int) = 0 → (writeE (flushD dk) g2 = 0 ∨ writeE (flushD dk) g2 = 2) → (writeE (writeD (flushD dk) g2 (tabX (withM m n (z : Int)) ((2 * N + 20 : Nat) : Int))) ((N : Int) + g2) = 0 ∨ writeE (writeD (flushD dk) g2 (tabX (withM m n (z : Int)) ((2 * N + 20 : Nat) : Int))) ((N : Int) + g2) = 2) → ¬ (writeE (flushD dk) g2 = 2 ∧ writeE (writeD (flushD dk) g2 (tabX (withM m n (z : Int)) ((2 * N + 20 : Nat) : Int))) ((N : Int) + g2) = 2) → keepX (flushD dk) (withM m n (z : Int)) = (flushE (writeD (writeD (flushD dk) g2 (tabX (withM m n (z : Int)) ((2 * N + 20 : Nat) : Int))) ((N : Int) + g2) (tabX (withM m n (z : Int)) ((2 * N + 20 : Nat) : Int))), flushD (writeD (writeD (flushD dk) g2 (tabX (withM m n (z : Int)) ((2 * N + 20 : Nat) : Int))) ((N : Int) + g2) (tabX (withM m n (z : Int)) ((2 * N + 20 : Nat) : Int)))) := fun h => by rw [(hyes h).2];exact @keepX_f (flushD dk) (withM m n (z : Int)) (writeE (flushD dk) g2) _ g2 ((N : Int) + g2) _ _ (hyes h).1 hmod0 hQ rfl rfl rfl rfl
   clear hyes hno hwq1 hwq2 hg2 hQ hmod0 hoa hob hca h4o h4c hgn hL1 hng hrn hzw
   generalize hda : writeD (flushD dk) g2 (tabX (withM m n (z : Int)) ((2 * N + 20 : Nat) : Int)) = dka at *
   generalize hdb : writeD dka ((N : Int) + (g2 : Int)) (tabX (withM m n (z : Int)) ((2 * N + 20 : Nat) : Int)) = dkb at *
   generalize hea : writeE (flushD dk) g2 = ee1 at *
   generalize heb : writeE dka ((N : Int) + (g2 : Int)) = ee2 at *
   generalize hef : flushE dkb = ef at *
   generalize hdf : flushD dkb = dkf at *
   generalize hte : tabE (withM m n (z : Int)) ((2 * N + 20 : Nat) : Int) = te at *
   generalize hlx : ((tabX (withM m n (z : Int)) ((2 * N + 20 : Nat) : Int)).map B).toArray = LX at *
   generalize he4 : flushE dk = e4 at *
   generalize hd4 : (flushD dk) = d4 at *
   clear hda hdb hea heb hef hdf hte hlx he4 hd4
   have X8 : Jq7 (¬ (q0a = n ∧ L = 20) → e4 = 0 → te = 0 → ee1 ≠ 0 → ee1 ≠ 2 → (E0, D0, M0) = (ee1, dka, m)) := jq7 (fun c1 c2 c3 c4 c5 => by have := X5 c1 c2;rw [k1f c3 c4 c5] at this;exact this c4)
   have X9 : Jq7 (¬ (q0a = n ∧ L = 20) → e4 = 0 → te = 0 → (ee1 = 0 ∨ ee1 = 2) → ee2 ≠ 0 → ee2 ≠ 2 → (E0, D0, M0) = (ee2, dkb, m)) := jq7 (fun c1 c2 c3 c4 c5 c6 => by have := X5 c1 c2;rw [k2f c3 c4 c5 c6] at this;exact this c5)
   have XA : Jq7 (¬ (q0a = n ∧ L = 20) → e4 = 0 → te = 0 → ee1 = 2 → ee2 = 2 → (E0, D0, M0) = (2, dkb, m)) := jq7 (fun c1 c2 c3 c4 c5 => by have := X5 c1 c2;rw [k22f c3 (.inr c4) c4 c5] at this;exact this (by show ¬ (2 : Int) = 0;omega))
   have XB : Jq7 (¬ (q0a = n ∧ L = 20) → e4 = 0 → te = 0 → (ee1 = 0 ∨ ee1 = 2) → (ee2 = 0 ∨ ee2 = 2) → ¬ (ee1 = 2 ∧ ee2 = 2) → ef ≠ 0 → (E0, D0, M0) = (ef, dkf, m)) := jq7 (fun c1 c2 c3 c4 c5 c6 c7 => by have := X5 c1 c2;rw [kff c3 c4 c5 c6] at this;exact this c7)
   have XC : Jq7 (¬ (q0a = n ∧ L = 20) → e4 = 0 → te = 0 → (ee1 = 0 ∨ ee1 = 2) → (ee2 = 0 ∨ ee2 = 2) → ¬ (ee1 = 2 ∧ ee2 = 2) → ef = 0 → (E0, D0, M0) = (0, dkf, (withM m n (z : Int)))) := jq7 (fun c1 c2 c3 c4 c5 c6 c7 => by have := X6 c1 c2;rw [kff c3 c4 c5 c6] at this;exact this c7)
   clear X5 X6 k1f k2f k22f kff HX1 HX2 HX3 HX4 HX5 HX6 HSP HWI HMO HMG HHN HWS
   go_wp2_with (first | ((with_reducible show wkq (.load 28 _) _);refine lr 28 r (RC g (.slice a L c)) HR6.o (HIN.o _ _) ?_) | ((with_reducible show wkq (.load 28 _) _);refine lr 28 r (RC g (.slice a L c)) HR9.o (HIN.o _ _) ?_) | (go_at_call 74;(with_reducible refine (HAT.o _ HRV6.o).mono ?_);rintro e w8 ⟨rfl, hf8⟩;have HV8 := jq7 (HV6.o.keep hf8);have HR8 := kq0 hf8 HR6;have HB8 := kq0 hf8 HB6;have HRV8 := jq7 (HRV6.o.keep hf8);have HF8 := fq0 HF6 hf8;have r81 : w8.cell? ⟨r, 1, none⟩ = some (.slice a L c) := Bk.cell HR8.o 1;clear hf8) | (go_at_call 78;(with_reducible refine (HFL.o _ _ _ _ _ HV8.o).mono ?_);rintro e w9 ⟨rfl, ⟨s9, n9, c9, m9, hv9⟩, hf9⟩;have HV9 := jq7 hv9;have HR9 := jq7 (hf9.keep HR8.o hrp);have HRV9 := jq7 (RV.past HRV8.o hf9 HV8.o.blk);have HF9 : Jq7 (Fr (fun i => i = p) w w9) := jq7 (HF8.o.trans hf9);clear hv9 hf9) | (go_at_call 79;(with_reducible refine (HWZ.o _ HRV9.o).mono ?_);rintro e wA ⟨aA, cA, rfl, hrowA, hfA⟩;have HZA := jq7 (Bk.new wA (.cells RZ 28));have hfs : Fr0 wA ((wA.alloc (.cells RZ 28)).setRow wA.heap.size (RC (gn : Int) (.slice aA L1 cA))) := ArrKit.Fr.row (Fr.alloc (Fr.refl _ _) _) _ _ (.inl (Nat.le_refl _));have HROA : Jq7 (RowP ((wA.alloc (.cells RZ 28)).setRow wA.heap.size (RC (gn : Int) (.slice aA L1 cA))) w9.heap.size (.slice aA L1 cA) (withM m n (z : Int)).ps) := jq7 (hrowA.keep0 hfs);have HFb : Jq7 (Fr0 w9 ((wA.alloc (.cells RZ 28)).setRow wA.heap.size (RC (gn : Int) (.slice aA L1 cA)))) := jq7 (hfA.then0 hfs);have HGA : Jq7 (Bk ((wA.alloc (.cells RZ 28)).setRow wA.heap.size (RC (gn : Int) (.slice aA L1 cA))) wA.heap.size (RC (gn : Int) (.slice aA L1 cA)) 28) := jq7 (ArrKit.Bk.row HZA.o _);have HNA : Jq7 (∀ q, (Value.slice aA L1 cA).ownBlock = some q → q ≠ wA.heap.size) := jq7 (fun q e => by have := (hrowA.blk q e).2;omega);have HLA : Jq7 (w9.heap.size ≤ wA.heap.size) := jq7 hfA.size;clear hrowA hfA hfs) | ((with_reducible show wkq (.store 28 _ _) _);refine wpList_store_row rfl 28 _ _ rfl wA.heap.size (RC (gn : Int) (.slice aA L1 cA)) rfl rfl 28 RZ HZA.o (HIN.o _ _) rfl (RC_all _ _ _ _) ?_))
   all_goals (try simp only [bne_iff_ne, ne_eq, beq_iff_eq, bne_eq_false_iff_eq, beq_eq_false_iff_ne] at *)
   all_goals (try (go_ret;first | (obtain ⟨rfl, rfl, rfl⟩ := wr_parts (X3.o (by omega) (by omega));exact ⟨rfl, ⟨_, _, _, _, HV8.o⟩, ⟨a, c, by rw [HRR.o];exact HR8.o, HRV8.o⟩, HF8.o.weaken (fun _ _ h => .inl h)⟩) | (obtain ⟨rfl, rfl, rfl⟩ := wr_parts (X4.o (by omega) (by omega));exact ⟨rfl, ⟨_, _, _, _, HV9.o⟩, ⟨a, c, by rw [HRR.o];exact HR9.o, HRV9.o⟩, HF9.o.weaken (fun _ _ h => .inl h)⟩)))
   all_goals
    have HC0 : Jq7 (¬ (q0a = n ∧ L = 20)) := jq7 (by omega)
    have HE4 : Jq7 (e4 = 0) := jq7 (by omega)
    generalize ((wA.alloc (.cells RZ 28)).setRow wA.heap.size (RC (gn : Int) (.slice aA L1 cA))) = wB at *
    generalize wA.heap.size = gA at *
    have HROd : Jq7 (RowP wB.drew w9.heap.size (.slice aA L1 cA) (withM m n (z : Int)).ps) := jq7 (HROA.o.keep0 (Fr.drew (Fr.refl _ _)))
    have HSC : Jq7 (∀ W, Fr0 w9 W → W.cell? ⟨p, 0, none⟩ = some (.slice s9 (2 * N + 20) n9)) := jq7 (fun W f => by have := Bk.cell (HV9.o.keep f).blk 0;rw [show (dval d4 s9 n9 c9 m9)[0]? = some (.slice s9 d4.S.length n9) from rfl, HS4.o] at this;exact this)
    have HIG : Jq7 ((Tryz.prog.info? 28).map (·.size) = some (RC (gn : Int) (.slice aA L1 cA)).size) := jq7 (info_r _ _)
    refine wp_region_noPanic ?_
    refine wp_region_held_drew (S := (fun W : World => Bk W gA (RC (gn : Int) (.slice aA L1 cA)) 28 ∧ Fr0 w9 W)) (by kernel_rfl) (⟨HGA.o, Fr.drew HFb.o⟩) (fun hL0 => ?_)
    generalize wB.drew = wd at *
    refine tk (i := 0) (v := .agg (RC (gn : Int) (.slice aA L1 cA))) rfl (yields_row (by kernel_rfl) 28 _ rfl (gA) rfl 28 (RC (gn : Int) (.slice aA L1 cA)) (0, 0) _ (fun W h => h.1) Tryz.underlying28 rfl HIG.o) hL0 ?_
    refine tk0 (i := 1) (v := .pointer (some ⟨p, 0, none⟩)) rfl hL0 ?_
    simp only [Act.put,zA,zB,zC,zD,zE,zF]
    refine tk0 (i := 2) (v := .pointer (some ⟨p, 0, none⟩)) rfl hL0 ?_
    refine tk0 (i := 3) (v := .pointer (some ⟨p, 0, none⟩)) rfl hL0 ?_
    simp only [Act.put,zA,zB,zC,zD,zE,zF]
    refine tk (i := 4) (v := .slice s9 (2 * N + 20) n9) rfl (Or.inl ⟨by kernel_rfl, fun w hSw => by have hcl := (fun _ h => HSC.o _ h.2) w hSw;go_simp⟩) hL0 ?_
    refine tk (i := 5) (v := .int .i64 (2 * (N : Int) + 20)) rfl (Or.inl ⟨by kernel_rfl, fun w hSw => by go_simp⟩) hL0 ?_
    simp only [Act.put,zA,zB,zC,zD,zE,zF]
    change wpAnyH _ _ _ _ _ 7 #[true, true, true, true, true, true, false, false, false, false, false, false, false] _ _
    refine wpAnyH_ready (rs := [6, 10]) (by kernel_rfl) (by simp) ?_
    refine AllReadyH.cons rfl (fun K hK => ?_) (AllReadyH.cons rfl (fun K hK => ?_) (AllReadyH.nil))
    ·simp only [zA, zB, zC]
     refine (if_pos (by kernel_rfl)).mpr ?_
     go_wp2_with fail
     refine (HPU.o wd aA cA (Row.rv (g := 0) (m := (withM m n (z : Int))) HROd.o).2).mono ?_
     rintro e wx0 ⟨rfl, hfx0⟩
     dsimp only
     refine hK.out _ _ (⟨hfx0.keep (hL0).1 (fun h => h), (hL0).2.then0 hfx0⟩) (fun hL1 => ?_)
     clear hK K hL0
     have HROk0 := jq7 (HROd.o.keep0 hfx0)
     refine tk0 (i := 7) (v := .tuple #[.agg LX, .int .i64 te]) rfl hL1 ?_
     refine tk (i := 8) (v := .agg LX) rfl (Or.inl ⟨by kernel_rfl, fun w hSw => by go_simp⟩) hL1 ?_
     simp only [Act.put,zA,zB,zC,zD,zE,zF]
     refine tk (i := 9) (v := .int .i64 te) rfl (Or.inl ⟨by kernel_rfl, fun w hSw => by go_simp⟩) hL1 ?_
     simp only [Act.put,zA,zB,zC,zD,zE,zF]
     change wpAnyH _ _ _ _ _ 3 #[true, true, true, true, true, true, true, true, true, true, false, false, false] _ _
     refine rd1 10 rfl fun K hK => ?_
     simp only [zA, zB, zC]
     have hk0 := hL1
     go_wp2_with fail
     refine hK.out _ _ (⟨Bk.alloc (hL1).1 _, Fr.alloc (hL1).2 _⟩) (fun hL2 => ?_)
     clear hK K hL1
     have HGB1 : Jq7 (Bk (wx0.alloc (.cells ZB 36)) wx0.heap.size ZB 36) := jq7 (Bk.new _ _)
     have HGE : Jq7 (w9.heap.size ≤ wx0.heap.size ∧ gA < wx0.heap.size) := jq7 ⟨(hk0).2.size, Bk.lt (hk0).1⟩
     have HNB : Jq7 (∀ q, (Value.slice aA L1 cA).ownBlock = some q → q ≠ wx0.heap.size) := jq7 (fun q e => by have := (HROk0.o.blk q e).2;omega)
     have HROk1 : Jq7 (RowP (wx0.alloc (.cells ZB 36)) w9.heap.size (.slice aA L1 cA) (withM m n (z : Int)).ps) := jq7 (HROk0.o.keep0 (Fr.alloc (Fr.refl _ _) _))
     generalize (wx0.alloc (.cells ZB 36)) = wy1 at *
     generalize wx0.heap.size = gb at *
     clear hk0
     change wpAnyH _ _ _ _ _ 2 #[true, true, true, true, true, true, true, true, true, true, true, false, false] _ _
     refine rd1 11 rfl fun K hK => ?_
     simp only [zA, zB, zC]
     have hge := HGE.o
     refine wp_store_row 36 _ _ rfl gb LX rfl rfl 36 ZB HGB1.o HIL.o HSL.o HOL.o ?_
     refine hK.out _ _ (⟨ArrKit.Bk.rowOther (hL2).1 _ (by omega), ArrKit.Fr.row (hL2).2 _ _ (.inl (by omega))⟩) (fun hL3 => ?_)
     clear hK K hL2
     have HGF : Jq7 (Bk (wy1.setRow gb LX) gb LX 36) := jq7 (ArrKit.Bk.row HGB1.o _)
     have HROe : Jq7 (RowP (wy1.setRow gb LX) w9.heap.size (.slice aA L1 cA) (withM m n (z : Int)).ps) := jq7 (HROk1.o.keep (Fr.row1 _ gb _) (fun q e => HNB.o q e))
     generalize (wy1.setRow gb LX) = w3 at *
     refine tk0 (i := 12) (v := .int .i64 te) rfl hL3 ?_
     simp only [Act.put,zA,zB,zC,zD,zE,zF]
     change wpAnyH _ _ _ _ _ 0 #[true, true, true, true, true, true, true, true, true, true, true, true, true] _ _
     refine wpAnyH_done (by kernel_rfl) ?_ _
     refine NoPanic.normal ?_
     have HEND := jq7 hL3
     clear hL3
     have HV10 : Jq7 (DAt w3 p d4 s9 n9 c9 m9) := jq7 (HV9.o.keep HEND.o.2)
     have HR10 := jq7 (HEND.o.2.keep HR9.o (fun h => h))
     have HRV10 := jq7 (HRV9.o.keep HEND.o.2)
     have HF10 := jq7 (HF9.o.then0 HEND.o.2)
     have HP9 := jq7 (Bk.lt HV9.o.blk)
     have HNP : Jq7 (gA ≠ p ∧ gb ≠ p) := jq7 (by have h1 := HP9.o;have h2 := HLA.o;have h3 := HGE.o.1;exact ⟨by omega, by omega⟩)
     have HGA10 := jq7 HEND.o.1
     have b0 : w3.cell? ⟨gA, 0, none⟩ = some (.int .i64 (gn : Int)) := Bk.cell HGA10.o 0
     clear HEND
     go_wp2_with (first | ((with_reducible show wkq (.load 36 _) _);refine lr 36 gb LX HGF.o HIL.o ?_) | (go_at_call 76;(with_reducible refine (HW1.o _ _ _ _ _ HV10.o).mono ?_);rintro e w5 ⟨rfl, ⟨s5, n5, c5, m5, hv⟩, hf⟩;have HV11 := jq7 hv;have HGA11 := jq7 (hf.keep HGA10.o HNP.o.1);have HR11 := jq7 (hf.keep HR10.o hrp);have HRO11 : Jq7 (RowP w5 w9.heap.size (.slice aA L1 cA) (withM m n (z : Int)).ps) := jq7 (HROe.o.keep hf (fun q e => by have h1 := (HROe.o.blk q e).1;have h2 := HP9.o;omega));have HRV11 := jq7 (RV.past HRV10.o hf HV10.o.blk);have HF11 : Jq7 (Fr (fun i => i = p) w w5) := jq7 (HF10.o.trans hf);have HGF11 := jq7 (hf.keep HGF.o HNP.o.2);have b11 : w5.cell? ⟨gA, 0, none⟩ = some (.int .i64 (gn : Int)) := Bk.cell HGA11.o 0;clear hv hf) | ((with_reducible show wkq (.load 36 _) _);refine lr 36 gb LX HGF11.o HIL.o ?_) | (go_at_call 76;(with_reducible refine (HW2.o _ _ _ _ _ HV11.o).mono ?_);rintro e w6 ⟨rfl, ⟨s6b, n6b, c6b, m6b, hv⟩, hf⟩;have HV12 := jq7 hv;have HGA12 := jq7 (hf.keep HGA11.o HNP.o.1);have HR12 := jq7 (hf.keep HR11.o hrp);have HRO12 : Jq7 (RowP w6 w9.heap.size (.slice aA L1 cA) (withM m n (z : Int)).ps) := jq7 (HRO11.o.keep hf (fun q e => by have h1 := (HRO11.o.blk q e).1;have h2 := HP9.o;omega));have HRV12 := jq7 (RV.past HRV11.o hf HV11.o.blk);have HF12 : Jq7 (Fr (fun i => i = p) w w6) := jq7 (HF11.o.trans hf);have HGF12 := jq7 (hf.keep HGF11.o HNP.o.2);have b12 : w6.cell? ⟨gA, 0, none⟩ = some (.int .i64 (gn : Int)) := Bk.cell HGA12.o 0;clear hv hf) | (go_at_call 78;(with_reducible refine (HFL2.o _ _ _ _ _ HV12.o).mono ?_);rintro e w7 ⟨rfl, ⟨s7b, n7b, c7b, m7b, hv⟩, hf⟩;have HV13 := jq7 hv;have HGA13 := jq7 (hf.keep HGA12.o HNP.o.1);have HR13 := jq7 (hf.keep HR12.o hrp);have HRO13 : Jq7 (RowP w7 w9.heap.size (.slice aA L1 cA) (withM m n (z : Int)).ps) := jq7 (HRO12.o.keep hf (fun q e => by have h1 := (HRO12.o.blk q e).1;have h2 := HP9.o;omega));have HRV13 := jq7 (RV.past HRV12.o hf HV12.o.blk);have HF13 : Jq7 (Fr (fun i => i = p) w w7) := jq7 (HF12.o.trans hf);clear hv hf) | ((with_reducible show wkq (.load 28 _) _);refine lr 28 gA (RC (gn : Int) (.slice aA L1 cA)) HGA13.o (HIN.o _ _) ?_) | ((with_reducible show wkq (.store 28 _ _) _);refine wpList_store_row rfl 28 _ _ rfl r (RC (gn : Int) (.slice aA L1 cA)) rfl rfl 28 (RC g (.slice a L c)) HR13.o (HIN.o _ _) rfl (RC_all _ _ _ _) ?_))
     all_goals go_ret
     all_goals first | (obtain ⟨rfl, rfl, rfl⟩ := wr_parts (X7.o HC0.o HE4.o (ntt (by with_reducible assumption)));exact ⟨rfl, ⟨_, _, _, _, HV10.o⟩, ⟨a, c, by rw [HRR.o];exact HR10.o, HRV10.o⟩, HF10.o.weaken (fun _ _ h => .inl h)⟩) | skip
     all_goals first | (have s1 : ee1 = 0 := (by with_reducible assumption)) | (have s1 : ee1 = 2 := n0 (by with_reducible assumption) (by with_reducible assumption)) | (have s1 : ee1 ≠ 0 ∧ ee1 ≠ 2 := nbad (by with_reducible assumption);have s2 := s1;(obtain ⟨rfl, rfl, rfl⟩ := wr_parts (X8.o HC0.o HE4.o (nt (by with_reducible assumption)) s1.1 s1.2);exact ⟨rfl, ⟨_, _, _, _, HV11.o⟩, ⟨a, c, by rw [HRR.o];exact HR11.o, HRV11.o⟩, HF11.o.weaken (fun _ _ h => .inl h)⟩))
     all_goals first | (have s2 : ee2 = 0 := (by with_reducible assumption)) | (have s2 : ee2 = 2 := n0 (by with_reducible assumption) (by with_reducible assumption)) | (have s2 : ee2 ≠ 0 ∧ ee2 ≠ 2 := nbad (by with_reducible assumption);(obtain ⟨rfl, rfl, rfl⟩ := wr_parts (X9.o HC0.o HE4.o (nt (by with_reducible assumption)) (by first | exact .inl s1 | exact .inr s1) s2.1 s2.2);exact ⟨rfl, ⟨_, _, _, _, HV12.o⟩, ⟨a, c, by rw [HRR.o];exact HR12.o, HRV12.o⟩, HF12.o.weaken (fun _ _ h => .inl h)⟩))
     all_goals first | exact absurd s1 (by with_reducible assumption) | (have h2 : (ee2 == 2) = false := (by with_reducible assumption);rw [s2] at h2;exact absurd h2 (by decide)) | (have h2 : (ee2 == 2) = true := (by with_reducible assumption);(obtain ⟨rfl, rfl, rfl⟩ := wr_parts (XA.o HC0.o HE4.o (nt (by with_reducible assumption)) s1 s2);exact ⟨rfl, ⟨_, _, _, _, HV12.o⟩, ⟨a, c, by rw [HRR.o];exact HR12.o, HRV12.o⟩, HF12.o.weaken (fun _ _ h => .inl h)⟩)) | skip
     all_goals first | (have s3 : ef = 0 := (by with_reducible assumption)) | (have s3 : ef = 0 := eq_of_beq (by with_reducible assumption)) | (have s3 : ef ≠ 0 := (by with_reducible assumption);(obtain ⟨rfl, rfl, rfl⟩ := wr_parts (XB.o HC0.o HE4.o (nt (by with_reducible assumption)) (by first | exact .inl s1 | exact .inr s1) (by first | exact .inl s2 | exact .inr s2) (fun h => by first | exact absurd (s1.symm.trans h.1) (by decide) | exact absurd (s2.symm.trans h.2) (by decide)) s3);exact ⟨rfl, ⟨_, _, _, _, HV13.o⟩, ⟨a, c, by rw [HRR.o];exact HR13.o, HRV13.o⟩, HF13.o.weaken (fun _ _ h => .inl h)⟩)) | (have s3 : (ef == 0) = false := (by with_reducible assumption);(obtain ⟨rfl, rfl, rfl⟩ := wr_parts (XB.o HC0.o HE4.o (nt (by with_reducible assumption)) (by first | exact .inl s1 | exact .inr s1) (by first | exact .inl s2 | exact .inr s2) (fun h => by first | exact absurd (s1.symm.trans h.1) (by decide) | exact absurd (s2.symm.trans h.2) (by decide)) (by simpa using s3));exact ⟨rfl, ⟨_, _, _, _, HV13.o⟩, ⟨a, c, by rw [HRR.o];exact HR13.o, HRV13.o⟩, HF13.o.weaken (fun _ _ h => .inl h)⟩))
     all_goals (obtain ⟨rfl, rfl, rfl⟩ := wr_parts (XC.o HC0.o HE4.o (nt (by with_reducible assumption)) (by first | exact .inl s1 | exact .inr s1) (by first | exact .inl s2 | exact .inr s2) (fun h => by first | exact absurd (s1.symm.trans h.1) (by decide) | exact absurd (s2.symm.trans h.2) (by decide)) s3);subst s3;have h12 : Fr (fun i => i = r) w7 (w7.setRow r (RC (gn : Int) (.slice aA L1 cA))) := Fr.row1 _ r _;exact ⟨rfl, ⟨_, _, _, _, DAt_past HV13.o HFO.o h12 HR13.o (rc_no _ _ _ _) (fun e => hrp e.symm)⟩, ⟨aA, cA, by rw [HRN.o];exact ArrKit.Bk.row HR13.o _, (Row.rv (g := 0) (m := (withM m n (z : Int))) (HRO13.o.keep h12 (fun q e => by have h1 := (HRO13.o.blk q e).1;have h2 := Bk.lt HR9.o;omega))).2⟩, Fr.then (HF13.o.weaken (fun _ _ h => .inl h)) h12 (fun i _ e => .inr e)⟩)
    ·simp only [zA, zB, zC]
     refine (if_pos (by kernel_rfl)).mpr ?_
     have hk0 := hL0
     go_wp2_with fail
     refine hK.out _ _ (⟨Bk.alloc (hL0).1 _, Fr.alloc (hL0).2 _⟩) (fun hL1 => ?_)
     clear hK K hL0
     have HGB0 : Jq7 (Bk (wd.alloc (.cells ZB 36)) wd.heap.size ZB 36) := jq7 (Bk.new _ _)
     have HGE : Jq7 (w9.heap.size ≤ wd.heap.size ∧ gA < wd.heap.size) := jq7 ⟨(hk0).2.size, Bk.lt (hk0).1⟩
     have HNB : Jq7 (∀ q, (Value.slice aA L1 cA).ownBlock = some q → q ≠ wd.heap.size) := jq7 (fun q e => by have := (HROd.o.blk q e).2;omega)
     have HROk0 : Jq7 (RowP (wd.alloc (.cells ZB 36)) w9.heap.size (.slice aA L1 cA) (withM m n (z : Int)).ps) := jq7 (HROd.o.keep0 (Fr.alloc (Fr.refl _ _) _))
     generalize (wd.alloc (.cells ZB 36)) = wy0 at *
     generalize wd.heap.size = gb at *
     clear hk0
     change wpAnyH _ _ _ _ _ 6 #[true, true, true, true, true, true, false, false, false, false, true, false, false] _ _
     refine rd1 6 rfl fun K hK => ?_
     simp only [zA, zB, zC]
     go_wp2_with fail
     refine (HPU.o wy0 aA cA (Row.rv (g := 0) (m := (withM m n (z : Int))) HROk0.o).2).mono ?_
     rintro e wx1 ⟨rfl, hfx1⟩
     dsimp only
     refine hK.out _ _ (⟨hfx1.keep (hL1).1 (fun h => h), (hL1).2.then0 hfx1⟩) (fun hL2 => ?_)
     clear hK K hL1
     have HROk1 := jq7 (HROk0.o.keep0 hfx1)
     have HGB1 := kq0 hfx1 HGB0
     refine tk0 (i := 7) (v := .tuple #[.agg LX, .int .i64 te]) rfl hL2 ?_
     refine tk (i := 8) (v := .agg LX) rfl (Or.inl ⟨by kernel_rfl, fun w hSw => by go_simp⟩) hL2 ?_
     simp only [Act.put,zA,zB,zC,zD,zE,zF]
     refine tk (i := 9) (v := .int .i64 te) rfl (Or.inl ⟨by kernel_rfl, fun w hSw => by go_simp⟩) hL2 ?_
     simp only [Act.put,zA,zB,zC,zD,zE,zF]
     change wpAnyH _ _ _ _ _ 2 #[true, true, true, true, true, true, true, true, true, true, true, false, false] _ _
     refine rd1 11 rfl fun K hK => ?_
     simp only [zA, zB, zC]
     have hge := HGE.o
     refine wp_store_row 36 _ _ rfl gb LX rfl rfl 36 ZB HGB1.o HIL.o HSL.o HOL.o ?_
     refine hK.out _ _ (⟨ArrKit.Bk.rowOther (hL2).1 _ (by omega), ArrKit.Fr.row (hL2).2 _ _ (.inl (by omega))⟩) (fun hL3 => ?_)
     clear hK K hL2
     have HGF : Jq7 (Bk (wx1.setRow gb LX) gb LX 36) := jq7 (ArrKit.Bk.row HGB1.o _)
     have HROe : Jq7 (RowP (wx1.setRow gb LX) w9.heap.size (.slice aA L1 cA) (withM m n (z : Int)).ps) := jq7 (HROk1.o.keep (Fr.row1 _ gb _) (fun q e => HNB.o q e))
     generalize (wx1.setRow gb LX) = w3 at *
     refine tk0 (i := 12) (v := .int .i64 te) rfl hL3 ?_
     simp only [Act.put,zA,zB,zC,zD,zE,zF]
     change wpAnyH _ _ _ _ _ 0 #[true, true, true, true, true, true, true, true, true, true, true, true, true] _ _
     refine wpAnyH_done (by kernel_rfl) ?_ _
     refine NoPanic.normal ?_
     have HEND := jq7 hL3
     clear hL3
     have HV10 : Jq7 (DAt w3 p d4 s9 n9 c9 m9) := jq7 (HV9.o.keep HEND.o.2)
     have HR10 := jq7 (HEND.o.2.keep HR9.o (fun h => h))
     have HRV10 := jq7 (HRV9.o.keep HEND.o.2)
     have HF10 := jq7 (HF9.o.then0 HEND.o.2)
     have HP9 := jq7 (Bk.lt HV9.o.blk)
     have HNP : Jq7 (gA ≠ p ∧ gb ≠ p) := jq7 (by have h1 := HP9.o;have h2 := HLA.o;have h3 := HGE.o.1;exact ⟨by omega, by omega⟩)
     have HGA10 := jq7 HEND.o.1
     have b0 : w3.cell? ⟨gA, 0, none⟩ = some (.int .i64 (gn : Int)) := Bk.cell HGA10.o 0
     clear HEND
     go_wp2_with (first | ((with_reducible show wkq (.load 36 _) _);refine lr 36 gb LX HGF.o HIL.o ?_) | (go_at_call 76;(with_reducible refine (HW1.o _ _ _ _ _ HV10.o).mono ?_);rintro e w5 ⟨rfl, ⟨s5, n5, c5, m5, hv⟩, hf⟩;have HV11 := jq7 hv;have HGA11 := jq7 (hf.keep HGA10.o HNP.o.1);have HR11 := jq7 (hf.keep HR10.o hrp);have HRO11 : Jq7 (RowP w5 w9.heap.size (.slice aA L1 cA) (withM m n (z : Int)).ps) := jq7 (HROe.o.keep hf (fun q e => by have h1 := (HROe.o.blk q e).1;have h2 := HP9.o;omega));have HRV11 := jq7 (RV.past HRV10.o hf HV10.o.blk);have HF11 : Jq7 (Fr (fun i => i = p) w w5) := jq7 (HF10.o.trans hf);have HGF11 := jq7 (hf.keep HGF.o HNP.o.2);have b11 : w5.cell? ⟨gA, 0, none⟩ = some (.int .i64 (gn : Int)) := Bk.cell HGA11.o 0;clear hv hf) | ((with_reducible show wkq (.load 36 _) _);refine lr 36 gb LX HGF11.o HIL.o ?_) | (go_at_call 76;(with_reducible refine (HW2.o _ _ _ _ _ HV11.o).mono ?_);rintro e w6 ⟨rfl, ⟨s6b, n6b, c6b, m6b, hv⟩, hf⟩;have HV12 := jq7 hv;have HGA12 := jq7 (hf.keep HGA11.o HNP.o.1);have HR12 := jq7 (hf.keep HR11.o hrp);have HRO12 : Jq7 (RowP w6 w9.heap.size (.slice aA L1 cA) (withM m n (z : Int)).ps) := jq7 (HRO11.o.keep hf (fun q e => by have h1 := (HRO11.o.blk q e).1;have h2 := HP9.o;omega));have HRV12 := jq7 (RV.past HRV11.o hf HV11.o.blk);have HF12 : Jq7 (Fr (fun i => i = p) w w6) := jq7 (HF11.o.trans hf);have HGF12 := jq7 (hf.keep HGF11.o HNP.o.2);have b12 : w6.cell? ⟨gA, 0, none⟩ = some (.int .i64 (gn : Int)) := Bk.cell HGA12.o 0;clear hv hf) | (go_at_call 78;(with_reducible refine (HFL2.o _ _ _ _ _ HV12.o).mono ?_);rintro e w7 ⟨rfl, ⟨s7b, n7b, c7b, m7b, hv⟩, hf⟩;have HV13 := jq7 hv;have HGA13 := jq7 (hf.keep HGA12.o HNP.o.1);have HR13 := jq7 (hf.keep HR12.o hrp);have HRO13 : Jq7 (RowP w7 w9.heap.size (.slice aA L1 cA) (withM m n (z : Int)).ps) := jq7 (HRO12.o.keep hf (fun q e => by have h1 := (HRO12.o.blk q e).1;have h2 := HP9.o;omega));have HRV13 := jq7 (RV.past HRV12.o hf HV12.o.blk);have HF13 : Jq7 (Fr (fun i => i = p) w w7) := jq7 (HF12.o.trans hf);clear hv hf) | ((with_reducible show wkq (.load 28 _) _);refine lr 28 gA (RC (gn : Int) (.slice aA L1 cA)) HGA13.o (HIN.o _ _) ?_) | ((with_reducible show wkq (.store 28 _ _) _);refine wpList_store_row rfl 28 _ _ rfl r (RC (gn : Int) (.slice aA L1 cA)) rfl rfl 28 (RC g (.slice a L c)) HR13.o (HIN.o _ _) rfl (RC_all _ _ _ _) ?_))
     all_goals go_ret
     all_goals first | (obtain ⟨rfl, rfl, rfl⟩ := wr_parts (X7.o HC0.o HE4.o (ntt (by with_reducible assumption)));exact ⟨rfl, ⟨_, _, _, _, HV10.o⟩, ⟨a, c, by rw [HRR.o];exact HR10.o, HRV10.o⟩, HF10.o.weaken (fun _ _ h => .inl h)⟩) | skip
     all_goals first | (have s1 : ee1 = 0 := (by with_reducible assumption)) | (have s1 : ee1 = 2 := n0 (by with_reducible assumption) (by with_reducible assumption)) | (have s1 : ee1 ≠ 0 ∧ ee1 ≠ 2 := nbad (by with_reducible assumption);have s2 := s1;(obtain ⟨rfl, rfl, rfl⟩ := wr_parts (X8.o HC0.o HE4.o (nt (by with_reducible assumption)) s1.1 s1.2);exact ⟨rfl, ⟨_, _, _, _, HV11.o⟩, ⟨a, c, by rw [HRR.o];exact HR11.o, HRV11.o⟩, HF11.o.weaken (fun _ _ h => .inl h)⟩))
     all_goals first | (have s2 : ee2 = 0 := (by with_reducible assumption)) | (have s2 : ee2 = 2 := n0 (by with_reducible assumption) (by with_reducible assumption)) | (have s2 : ee2 ≠ 0 ∧ ee2 ≠ 2 := nbad (by with_reducible assumption);(obtain ⟨rfl, rfl, rfl⟩ := wr_parts (X9.o HC0.o HE4.o (nt (by with_reducible assumption)) (by first | exact .inl s1 | exact .inr s1) s2.1 s2.2);exact ⟨rfl, ⟨_, _, _, _, HV12.o⟩, ⟨a, c, by rw [HRR.o];exact HR12.o, HRV12.o⟩, HF12.o.weaken (fun _ _ h => .inl h)⟩))
     all_goals first | exact absurd s1 (by with_reducible assumption) | (have h2 : (ee2 == 2) = false := (by with_reducible assumption);rw [s2] at h2;exact absurd h2 (by decide)) | (have h2 : (ee2 == 2) = true := (by with_reducible assumption);(obtain ⟨rfl, rfl, rfl⟩ := wr_parts (XA.o HC0.o HE4.o (nt (by with_reducible assumption)) s1 s2);exact ⟨rfl, ⟨_, _, _, _, HV12.o⟩, ⟨a, c, by rw [HRR.o];exact HR12.o, HRV12.o⟩, HF12.o.weaken (fun _ _ h => .inl h)⟩)) | skip
     all_goals first | (have s3 : ef = 0 := (by with_reducible assumption)) | (have s3 : ef = 0 := eq_of_beq (by with_reducible assumption)) | (have s3 : ef ≠ 0 := (by with_reducible assumption);(obtain ⟨rfl, rfl, rfl⟩ := wr_parts (XB.o HC0.o HE4.o (nt (by with_reducible assumption)) (by first | exact .inl s1 | exact .inr s1) (by first | exact .inl s2 | exact .inr s2) (fun h => by first | exact absurd (s1.symm.trans h.1) (by decide) | exact absurd (s2.symm.trans h.2) (by decide)) s3);exact ⟨rfl, ⟨_, _, _, _, HV13.o⟩, ⟨a, c, by rw [HRR.o];exact HR13.o, HRV13.o⟩, HF13.o.weaken (fun _ _ h => .inl h)⟩)) | (have s3 : (ef == 0) = false := (by with_reducible assumption);(obtain ⟨rfl, rfl, rfl⟩ := wr_parts (XB.o HC0.o HE4.o (nt (by with_reducible assumption)) (by first | exact .inl s1 | exact .inr s1) (by first | exact .inl s2 | exact .inr s2) (fun h => by first | exact absurd (s1.symm.trans h.1) (by decide) | exact absurd (s2.symm.trans h.2) (by decide)) (by simpa using s3));exact ⟨rfl, ⟨_, _, _, _, HV13.o⟩, ⟨a, c, by rw [HRR.o];exact HR13.o, HRV13.o⟩, HF13.o.weaken (fun _ _ h => .inl h)⟩))
     all_goals (obtain ⟨rfl, rfl, rfl⟩ := wr_parts (XC.o HC0.o HE4.o (nt (by with_reducible assumption)) (by first | exact .inl s1 | exact .inr s1) (by first | exact .inl s2 | exact .inr s2) (fun h => by first | exact absurd (s1.symm.trans h.1) (by decide) | exact absurd (s2.symm.trans h.2) (by decide)) s3);subst s3;have h12 : Fr (fun i => i = r) w7 (w7.setRow r (RC (gn : Int) (.slice aA L1 cA))) := Fr.row1 _ r _;exact ⟨rfl, ⟨_, _, _, _, DAt_past HV13.o HFO.o h12 HR13.o (rc_no _ _ _ _) (fun e => hrp e.symm)⟩, ⟨aA, cA, by rw [HRN.o];exact ArrKit.Bk.row HR13.o _, (Row.rv (g := 0) (m := (withM m n (z : Int))) (HRO13.o.keep h12 (fun q e => by have h1 := (HRO13.o.blk q e).1;have h2 := Bk.lt HR9.o;omega))).2⟩, Fr.then (HF13.o.weaken (fun _ _ h => .inl h)) h12 (fun i _ e => .inr e)⟩)

theorem rwrm_calls (p r : Nat) (d : Dk) (sa : Option Addr) (sc : Nat) (ca : Option Addr) (cc : Nat) (m : Rm) (a : Option Addr) (c : Nat) (b : List UInt8) (n : Int) (w : World) (hok : d.ok) (hv : DAt w p d sa sc ca cc) (hm : m.ok) (hrv : RV w m a c) (hb : b.length = 128) (hR : Bk w r (rval m a c) 28) (hrp : r ≠ p) (hn : (Lit.int .i64 n).wf = true) (hC : d.C.length ≤ 900) : Calls Tryz.prog 52 #[.pointer (some ⟨p, 0, none⟩), .pointer (some ⟨r, 0, none⟩), .int .i64 n, .agg (b.map B).toArray] w fun e w' => e = .returned (.int .i64 (wrX d m n b).1) ∧ DIn w' p (wrX d m n b).2.1 ∧ (∃ a' c', Bk w' r (rval (wrX d m n b).2.2 a' c') 28 ∧ RV w' (wrX d m n b).2.2 a' c') ∧ Fr (fun i => i = p ∨ i = r) w w' := by
 cases h1 : askedB d m n with
 | false => rw [wrX_no h1];exact rw0 p r d sa sc ca cc m a c b _ n _ w rfl rfl hok hv hm hrv hb hR hrp hn hC h1
 | true => exact rw1 p r d sa sc ca cc m a c b _ n _ w rfl rfl hok hv hm hrv hb hR hrp hn hC h1 _ _ _ rfl

end Go.Proofs.YtmkmpfnadcmcoaaGreatDoor.RmRWrite
