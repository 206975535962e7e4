/- RemapWrites, walked. -/
import Derived.Test.YtlleandelcjhjaaDoorRmGreat
import Derived.Test.YtlleandelcjhjaaDoorDiskTwins
import Derived.Test.YtlleandelcjhjaaDoorDiskSameB
import Derived.Test.YtlleandelcjhjaaDoorEqlKit
import Derived.Test.YtlleandelcjhjaaDoorRmRWrite
set_option maxRecDepth 100000
set_option linter.unusedVariables false
set_option linter.unusedSimpArgs false
namespace Go.Proofs.YtlleandelcjhjaaDoor.RmWritesLaw
open Go Go.RowKit Go.Proofs.YtlleandelcjhjaaDoor.K Go.Proofs.YtlleandelcjhjaaDoor.EqKit Go.Proofs.YtlleandelcjhjaaDoor.ArrKit Go.Proofs.YtlleandelcjhjaaDoor.HeldKit Go.Proofs.YtlleandelcjhjaaDoor.GKit Go.Proofs.YtlleandelcjhjaaDoor.GRow Go.Proofs.YtlleandelcjhjaaDoor.DiskKit Go.Proofs.YtlleandelcjhjaaDoor.RmKit Go.Proofs.YtlleandelcjhjaaDoor.MapKit Go.Proofs.YtlleandelcjhjaaDoor.DiskNew Go.Proofs.YtlleandelcjhjaaDoor.RmRight Go.Proofs.YtlleandelcjhjaaDoor.RmRRight Go.Proofs.YtlleandelcjhjaaDoor.RmTab Go.Proofs.YtlleandelcjhjaaDoor.RmPut Go.Proofs.YtlleandelcjhjaaDoor.RmRPut Go.Proofs.YtlleandelcjhjaaDoor.RmAsk Go.Proofs.YtlleandelcjhjaaDoor.RmSame Go.Proofs.YtlleandelcjhjaaDoor.DiskCopy Go.Proofs.YtlleandelcjhjaaDoor.DiskTwins Go.Proofs.YtlleandelcjhjaaDoor.DiskSame Go.Proofs.YtlleandelcjhjaaDoor.DiskSameB Go.Proofs.YtlleandelcjhjaaDoor.DiskRRead Go.Proofs.YtlleandelcjhjaaDoor.RmRead Go.Proofs.YtlleandelcjhjaaDoor.RmReads Go.Proofs.YtlleandelcjhjaaDoor.RmAlive Go.Proofs.YtlleandelcjhjaaDoor.RmAliveP Go.Proofs.YtlleandelcjhjaaDoor.RmGreat Go.Proofs.YtlleandelcjhjaaDoor.EqlKit Go.Proofs.YtlleandelcjhjaaDoor.DiskAct Go.Proofs.YtlleandelcjhjaaDoor.RmSpare Go.Proofs.YtlleandelcjhjaaDoor.RmKeep Go.Proofs.YtlleandelcjhjaaDoor.RmFirst Go.Proofs.YtlleandelcjhjaaDoor.RmWrX Go.Proofs.YtlleandelcjhjaaDoor.RmWrite Go.Proofs.YtlleandelcjhjaaDoor.RmRWrite

/-- what is written where, as a value -/
def LAYV (n : Int) (b : List UInt8) : Array Value := ((.int .i64 n : Value) :: b.map B).toArray
theorem lay_range {w : World} {x : Nat} {n : Int} {b : List UInt8} (h : Bk w x (LAYV n b) 47) : w.rangeAt x 1 (b.map B) := fun j u hj => by
  rw [Bk.cell h, LAYV, List.getElem?_toArray, Nat.add_comm, List.getElem?_cons_succ]
  exact hj
theorem lay_cell {w : World} {x : Nat} {n : Int} {b : List UInt8} (h : Bk w x (LAYV n b) 47) : w.cell? ⟨x, 0, none⟩ = some (.int .i64 n) := by
  rw [Bk.cell h]; rfl
/-- a table is no place of tables' pairs -/
theorem RV.pastR {w w1 : World} {m : Rm} {a : Option Addr} {c r : Nat} (h : RV w m a c) (f : Fr (fun i => i = r) w w1) {g : Int} {a' : Option Addr} {n' c' : Nat} (hb : Bk w r (RC g (.slice a' n' c')) 24) : RV w1 m a c :=
  ⟨RdG.later h.rd f (fun x e hl => by
    subst e
    rintro rfl
    have h0 : 0 < m.ps.length := List.length_pos_iff.2 hl
    obtain ⟨b, o, e0, hat⟩ := RdP.form h.rd h0
    cases e0
    have h1 := (hat _ h.rd).2.1
    have h2 := (hat _ h.rd).2.2
    rw [Bk.cell hb] at h1 h2
    generalize o + 0 * 2 = q at *
    rcases (show q = 0 ∨ q = 1 ∨ 2 ≤ q by omega) with rfl | rfl | h4
    · cases (Option.some.inj h2)
    · cases (Option.some.inj h1)
    · rw [Array.getElem?_eq_none (show (RC g (.slice a' n' c')).size ≤ q from h4)] at h1; cases h1), h.len, h.max⟩
/-- a disk and a table, each in its variable -/
def PS (w : World) (p r : Nat) (d : Dk) (m : Rm) : Prop := DIn w p d ∧ ∃ a c, Bk w r (rval m a c) 24 ∧ RV w m a c
theorem PS.keep0 {w w1 : World} {p r : Nat} {d : Dk} {m : Rm} (h : PS w p r d m) (f : Fr0 w w1) : PS w1 p r d m := by
  obtain ⟨h1, a, c, h2, h3⟩ := h
  exact ⟨h1.keep f, a, c, f.keep h2 (fun h => h), h3.keep f⟩
theorem Fr.split {w w1 : World} {p r : Nat} (f : Fr (fun i => i = p ∨ i = r) w w1) : ∃ w0 : World, Fr (fun i => i = p) w w0 ∧ Fr (fun i => i = r) w0 w1 ∧ (∀ i, i ≠ p → i < w.heap.size → w0.heap[i]? = w.heap[i]?) := by
  by_cases hp : p < w.heap.size
  · by_cases hp1 : p < w1.heap.size
    · refine ⟨{ w with heap := w.heap.set p w1.heap[p] hp }, ⟨rfl, rfl, rfl, by simp, fun i hi hs => ?_⟩, ⟨f.os, f.tape, f.output, by simpa using f.size, fun i hi hs => ?_⟩, fun i hi hl => ?_⟩
      · show (w.heap.set p _ hp)[i]? = _
        rw [Array.getElem?_set_ne _ (fun e => hs e.symm)]
      · show _ = (w.heap.set p _ hp)[i]?
        have hi' : i < w.heap.size := by simpa using hi
        by_cases e : i = p
        · subst e
          rw [Array.getElem?_set_self, Array.getElem?_eq_getElem hp1]
        · rw [Array.getElem?_set_ne _ (fun h => e h.symm)]
          exact f.block i hi' (fun h => h.elim e hs)
      · show (w.heap.set p _ hp)[i]? = _
        rw [Array.getElem?_set_ne _ (fun e => hi e.symm)]
    · exact absurd (Nat.lt_of_lt_of_le hp f.size) hp1
  · exact ⟨w, Fr.refl _ _, ⟨f.os, f.tape, f.output, f.size, fun i hi hs => f.block i hi (fun h => h.elim (fun e => hp (e ▸ hi)) hs)⟩, fun _ _ _ => rfl⟩
theorem PS.past {w w1 : World} {p r q s : Nat} {d d0 : Dk} {m m0 : Rm} (h : PS w q s d m) (hok : d.ok) (h0 : PS w p r d0 m0) (f : Fr (fun i => i = p ∨ i = r) w w1) (hpr : r ≠ p) (hqp : q ≠ p) (hqr : q ≠ r) (hsp : s ≠ p) (hsr : s ≠ r) : PS w1 q s d m := by
  obtain ⟨⟨sa, sc, ca, cc, h1⟩, a, c, h2, h3⟩ := h
  obtain ⟨⟨sa0, sc0, ca0, cc0, h01⟩, a0, c0, h02, h03⟩ := h0
  obtain ⟨w0, f1, f2, hk⟩ := Fr.split f
  have hr0 : Bk w0 r (rval m0 a0 c0) 24 := (hk r hpr (Bk.lt h02)).trans h02
  exact ⟨⟨sa, sc, ca, cc, DAt_past (h1.past hok f1 h01.blk (dval_no _ _ _ _ _) hqp) hok f2 hr0 (rc_no _ _ _ _) hqr⟩, a, c, f2.keep (f1.keep h2 hsp) hsr, RV.pastR (RV.past h3 f1 h01.blk) f2 hr0⟩
theorem wrX_ok {d : Dk} {m : Rm} {n : Int} {b : List UInt8} (hok : d.ok) (hm : m.ok) (hn : (Lit.int .i64 n).wf = true) (hb : b.length = 128) : (wrX d m n b).2.1.ok ∧ (wrX d m n b).2.2.ok ∧ (wrX d m n b).2.2.ps.length ≤ m.ps.length + 1 := by
  cases h1 : askedB d m n with
  | false => rw [wrX_no h1]; exact ⟨hok, hm, Nat.le_succ _⟩
  | true =>
    have hap := asked_parts h1
    have hl := half_lo hap.2.2.2.2
    have haw := atI_wf hm hn
    have hw := writeD_ok hok hb haw
    by_cases h2 : writeE d (atI m n) = 2
    · have hs := spareR_ok (m := m) hb 20 (2 * half (d.S.length : Int)) (writeD d (atI m n) b) hw (by omega) (by omega)
      obtain ⟨⟨to, e3, d2⟩, h3⟩ : ∃ x, spareR m b 20 (2 * half (d.S.length : Int)) (writeD d (atI m n) b) = x := ⟨_, rfl⟩
      rw [h3] at hs
      obtain ⟨s1, s2, s3, s4, s5, -⟩ := hs
      by_cases h30 : e3 = 0
      · have hto : (Lit.int .i64 to).wf = true := wf_small s4 (by show to ≤ _; have h6 : to ≤ 2 * half (d.S.length : Int) + (20 : Nat) := s5; omega)
        by_cases h17 : plc m n < 0 ∧ m.ps.length = 20
        · rw [wrX_3 h1 rfl h2 h3 h30 h17]; exact ⟨s1, hm, Nat.le_succ _⟩
        · by_cases h4 : flushE d2 = 0
          · have hk := keepX_ok (m := nextM m n to) (flushD_ok s1)
            have hg := tab_parts hap.1
            by_cases h5 : (keepX (flushD d2) (nextM m n to)).1 = 0
            · rw [wrX_6 h1 rfl h2 h3 h30 h17 h4 h5]; exact ⟨hk.1, nextM_ok hm hn hto (wf_small (by omega) (by omega)), nextM_len _ _ _⟩
            · rw [wrX_5 h1 rfl h2 h3 h30 h17 h4 h5]; exact ⟨hk.1, hm, Nat.le_succ _⟩
          · rw [wrX_4 h1 rfl h2 h3 h30 h17 h4]; exact ⟨flushD_ok s1, hm, Nat.le_succ _⟩
      · rw [wrX_2 h1 rfl h2 h3 h30]; exact ⟨s1, hm, Nat.le_succ _⟩
    · rw [wrX_1 h1 rfl h2]; exact ⟨hw, hm, Nat.le_succ _⟩

set_option maxHeartbeats 2000000 in
set_option maxRecDepth 100000 in
theorem writes_all (m : Rm) (a : Option Addr) (c : Nat) (d : Dk) (sa : Option Addr) (sc : Nat) (ca : Option Addr) (cc : Nat) (n : Int) (b : List UInt8) (w : World) (hok : d.ok) (hv : DV w d sa sc ca cc) (hS : d.S.length * 130 ≤ 140737488355328) (hC : d.C.length * 136 ≤ 140737488355328) (hm : m.ok) (hr : RV w m a c) (hlen : m.ps.length ≤ 8796093022207) (hn : (Lit.int .i64 n).wf = true) (hb : b.length = 128) (hsh : Sh w) : Calls Tryd.prog 5 #[.agg (dval d sa sc ca cc), .agg (rval m a c), .agg (LAYV n b)] w fun e w' => e = .returned (.bool true) ∧ Fr0 w w' := by
  have HV := Lib.hid hv
  have HR := Lib.hid hr
  have HSH := Lib.hid hsh
  have hs1 : (w.alloc (.cells (dval d sa sc ca cc) 39)).heap.size = w.heap.size + 1 := by simp
  have hs2 : ((w.alloc (.cells (dval d sa sc ca cc) 39)).alloc (.cells (rval m a c) 24)).heap.size = w.heap.size + 1 + 1 := by simp
  have HX0 : Hid (Bk (((w.alloc (.cells (dval d sa sc ca cc) 39)).alloc (.cells (rval m a c) 24)).alloc (.cells (LAYV n b) 47)) w.heap.size (dval d sa sc ca cc) 39) := Lib.hid (Bk.alloc (Bk.alloc (Bk.new w _) _) _)
  have HY0 : Hid (Bk (((w.alloc (.cells (dval d sa sc ca cc) 39)).alloc (.cells (rval m a c) 24)).alloc (.cells (LAYV n b) 47)) (w.heap.size + 1) (rval m a c) 24) := Lib.hid (Bk.alloc (by have := Bk.new (w.alloc (.cells (dval d sa sc ca cc) 39)) (.cells (rval m a c) 24); rwa [hs1] at this) _)
  have HL0 : Hid (Bk (((w.alloc (.cells (dval d sa sc ca cc) 39)).alloc (.cells (rval m a c) 24)).alloc (.cells (LAYV n b) 47)) (w.heap.size + 1 + 1) (LAYV n b) 47) := Lib.hid (by have := Bk.new ((w.alloc (.cells (dval d sa sc ca cc) 39)).alloc (.cells (rval m a c) 24)) (.cells (LAYV n b) 47); rwa [hs2] at this)
  have HF0 : Hid (Fr0 w (((w.alloc (.cells (dval d sa sc ca cc) 39)).alloc (.cells (rval m a c) 24)).alloc (.cells (LAYV n b) 47))) := Lib.hid (Fr.alloc (Fr.alloc (Fr.alloc (Fr.refl _ _) _) _) _)
  have HAL : Hid (∀ W, Fr0 w W → Calls Tryd.prog 9 #[] W fun e w' => e = .returned (.bool true) ∧ Fr0 W w') := Lib.hid (fun W f => alive_calls W (hsh.keep0 f))
  have HGR : Hid (∀ W, Fr0 w W → Calls Tryd.prog 20 #[.agg (dval d sa sc ca cc)] W fun e w' => e = .returned (.bool (decide (300 < d.C.length))) ∧ Fr0 W w') := Lib.hid (fun W f => great_calls d sa sc ca cc W (hv.keep f))
  have HDC : Hid (∀ W, Fr0 w W → Calls Tryd.prog 21 #[.agg (dval d sa sc ca cc)] W fun e w' => ∃ sa' sc' ca' cc', e = .returned (.agg (dval d sa' sc' ca' cc')) ∧ DV w' d sa' sc' ca' cc' ∧ Fr0 W w') := Lib.hid (fun W f => copy_calls d sa sc ca cc W hok (hv.keep f) hS hC)
  have HRC : Hid (∀ W, Fr0 w W → Calls Tryd.prog 10 #[.agg (rval m a c)] W fun e w' => ∃ a' c', e = .returned (.agg (rval m a' c')) ∧ RV w' m a' c' ∧ Fr0 W w') := Lib.hid (fun W f => (rmcopy_calls m a c W (hr.keep f) (by omega)).mono (by rintro e w' ⟨g, cap, cur, h1, h2, h3, h4⟩; exact ⟨_, _, h1, ⟨OwnG.rd h3, OwnG.room h3, OwnG.max h3⟩, h4⟩))
  have hwo := wrX_ok hok hm hn hb
  have HSM : Hid (∀ W y1 y2 y3 y4 z1 z2 z3 z4, DV W (wrX d m n b).2.1 y1 y2 y3 y4 → DV W (wrX d m n b).2.1 z1 z2 z3 z4 → Calls Tryd.prog 24 #[.agg (dval (wrX d m n b).2.1 y1 y2 y3 y4), .agg (dval (wrX d m n b).2.1 z1 z2 z3 z4)] W fun e w' => e = .returned (.bool true) ∧ Fr0 W w') := Lib.hid (fun W _ _ _ _ _ _ _ _ h h' => same_calls _ _ _ _ _ _ _ _ _ W hwo.1 h h')
  have HRS : Hid (∀ W a c a' c', RV W (wrX d m n b).2.2 a c → RV W (wrX d m n b).2.2 a' c' → Calls Tryd.prog 19 #[.agg (rval (wrX d m n b).2.2 a c), .agg (rval (wrX d m n b).2.2 a' c')] W fun e w' => e = .returned (.bool true) ∧ Fr0 W w') := Lib.hid (fun W a c a' c' h h' => by have := rmsame_calls (wrX d m n b).2.2 (wrX d m n b).2.2 a a' c c' W hwo.2.1 hwo.2.1 h h' (by omega); rwa [decide_eq_true ⟨rfl, rfl⟩] at this)
  have HWA : Hid (d.C.length ≤ 900 → ∀ p r W, r ≠ p → Sh W → PS W p r d m → Calls Tryd.prog 25 #[.pointer (some ⟨p, 0, none⟩), .pointer (some ⟨r, 0, none⟩), .int .i64 n, .agg (b.map B).toArray] W fun e w' => e = .returned (.int .i64 (wrX d m n b).1) ∧ PS w' p r (wrX d m n b).2.1 (wrX d m n b).2.2 ∧ Fr (fun i => i = p ∨ i = r) W w') := Lib.hid (fun hc p r W hrp hs h => by
    obtain ⟨⟨sa, sc, ca, cc, h1⟩, a, c, h2, h3⟩ := h
    exact (write_calls p r d sa sc ca cc m a c b n W hok h1 hm h3 hb h2 hrp hs hn hc).mono (fun e w' h => ⟨h.1, ⟨h.2.1, h.2.2.1⟩, h.2.2.2⟩))
  have HWB : Hid (d.C.length ≤ 900 → ∀ p r W, r ≠ p → PS W p r d m → Calls Tryd.prog 26 #[.pointer (some ⟨p, 0, none⟩), .pointer (some ⟨r, 0, none⟩), .int .i64 n, .agg (b.map B).toArray] W fun e w' => e = .returned (.int .i64 (wrX d m n b).1) ∧ PS w' p r (wrX d m n b).2.1 (wrX d m n b).2.2 ∧ Fr (fun i => i = p ∨ i = r) W w') := Lib.hid (fun hc p r W hrp h => by
    obtain ⟨⟨sa, sc, ca, cc, h1⟩, a, c, h2, h3⟩ := h
    exact (rwrm_calls p r d sa sc ca cc m a c b n W hok h1 hm h3 hb h2 hrp hn hc).mono (fun e w' h => ⟨h.1, ⟨h.2.1, h.2.2.1⟩, h.2.2.2⟩))
  have HOK := Lib.hid hok
  have HOE := Lib.hid hwo.1
  have HIL : Hid ((Tryd.prog.info? 27).map (·.size) = some (b.map B).length) := Lib.hid (by rw [info_b, List.length_map, hb])
  have HID : Hid (∀ d a b c e, (Tryd.prog.info? 39).map (·.size) = some (dval d a b c e).size) := Lib.hid (fun _ _ _ _ _ => info_d)
  have HDO : Hid (∀ d a b c e, (dval d a b c e).all (·.oneCell') = true) := Lib.hid (fun _ _ _ _ _ => dval_one _ _ _ _ _)
  have HIR : Hid (∀ m a c, (Tryd.prog.info? 24).map (·.size) = some (rval m a c).size) := Lib.hid (fun _ _ _ => info_r _ _)
  have HRO : Hid (∀ m a c, (rval m a c).all (·.oneCell') = true) := Lib.hid (fun _ _ _ => RC_all _ _ _ _)
  have hzd : ∀ W, (zeroValue 39).run Tryd.prog W = .ok (.agg DZ) W := by intro W; kernel_rfl
  have hzr := zero_r
  have HCL : Hid (decide (300 < d.C.length) = false → d.C.length ≤ 900) := Lib.hid (fun h => by have := of_decide_eq_false h; omega)
  obtain ⟨E, hE⟩ : ∃ E, (wrX d m n b).1 = E := ⟨_, rfl⟩
  obtain ⟨D1, hD1⟩ : ∃ D1, (wrX d m n b).2.1 = D1 := ⟨_, rfl⟩
  obtain ⟨M1, hM1⟩ : ∃ M1, (wrX d m n b).2.2 = M1 := ⟨_, rfl⟩
  rw [hE, hD1, hM1] at HWA HWB
  rw [hD1] at HSM HOE
  rw [hM1] at HRS
  have hee : (E == E) = true := beq_self_eq_true _
  clear hs1 hs2 hv hr hsh hok hm hn hS hC hlen hb hwo hE hD1 hM1
  cases hg : decide (300 < d.C.length) with
  | true =>
    rw [hg] at HGR
    clear hg
    go_enter Tryd.func5, Tryd.ntmps5
    go_wp2_with (first | (go_at_call 9; (with_reducible refine (HAL.out _ HF0.out).mono ?_); rintro e w1 ⟨rfl, hf1⟩; have HF1 := Lib.hid (HF0.out.then0 hf1); have HX1 := Lib.hid (hf1.keep HX0.out (fun h => h)); have HY1 := Lib.hid (hf1.keep HY0.out (fun h => h)); have HL1 := Lib.hid (hf1.keep HL0.out (fun h => h)); clear hf1) | ((with_reducible show wpList _ _ _ ({ dst := _, op := Op.load 39 _, type := _, pos := _, after := _, guard := _ } :: _) _ _); refine wpList_load_row_g (by rfl) 39 _ rfl w.heap.size rfl 39 _ (0, 0) _ HX1.out Tryd.underlying39 rfl (HID.out _ _ _ _ _) ?_) | (go_at_call 20; (with_reducible refine (HGR.out _ HF1.out).mono ?_); rintro e w2 ⟨rfl, hf2⟩; have HF2 := Lib.hid (HF1.out.then0 hf2); have HX2 := Lib.hid (hf2.keep HX1.out (fun h => h)); have HY2 := Lib.hid (hf2.keep HY1.out (fun h => h)); have HL2 := Lib.hid (hf2.keep HL1.out (fun h => h)); clear hf2))
    go_ret
    exact ⟨rfl, HF2.out⟩
  | false =>
    rw [hg] at HGR
    have HC9 := Lib.hid (HCL.out hg)
    clear hg HCL
    go_enter Tryd.func5, Tryd.ntmps5
    go_wp2_with (first | (go_at_call 9; (with_reducible refine (HAL.out _ HF0.out).mono ?_); rintro e w1 ⟨rfl, hf1⟩; have HF1 := Lib.hid (HF0.out.then0 hf1); have HX1 := Lib.hid (hf1.keep HX0.out (fun h => h)); have HY1 := Lib.hid (hf1.keep HY0.out (fun h => h)); have HL1 := Lib.hid (hf1.keep HL0.out (fun h => h)); clear hf1) | ((with_reducible show wpList _ _ _ ({ dst := _, op := Op.load 39 _, type := _, pos := _, after := _, guard := _ } :: _) _ _); refine wpList_load_row_g (by rfl) 39 _ rfl w.heap.size rfl 39 _ (0, 0) _ HX1.out Tryd.underlying39 rfl (HID.out _ _ _ _ _) ?_) | (go_at_call 20; (with_reducible refine (HGR.out _ HF1.out).mono ?_); rintro e w2 ⟨rfl, hf2⟩; have HF2 := Lib.hid (HF1.out.then0 hf2); have HX2 := Lib.hid (hf2.keep HX1.out (fun h => h)); have HY2 := Lib.hid (hf2.keep HY1.out (fun h => h)); have HL2 := Lib.hid (hf2.keep HL1.out (fun h => h)); clear hf2))
    rename_i K hKA
    have HREST : Hid (∀ (W : World) (pA pB : Nat) s1 n1 c1 m1 s2 n2 c2 m2, Fr (fun _ => False) w2 W → DAt W pA d s1 n1 c1 m1 → DAt W pB d s2 n2 c2 m2 → pA ≠ pB → w2.heap.size ≤ pA → w2.heap.size ≤ pB → K { tmps := #[Value.agg (dval d sa sc ca cc), Value.agg (rval m a c), Value.agg (LAYV n b), Value.pointer (some ⟨w.heap.size, 0, none⟩), Value.pointer (some ⟨w.heap.size + 1, 0, none⟩), Value.pointer (some ⟨w.heap.size + 1 + 1, 0, none⟩), Value.bool false, .pointer (some ⟨pA, 0, none⟩), .pointer (some ⟨pB, 0, none⟩), undef, undef, undef, undef, Value.bool true, Value.bool false, Value.agg (dval d sa sc ca cc), Value.bool false, .agg (dval d sa sc ca cc), .agg (dval d s1 n1 c1 m1), .agg (dval d sa sc ca cc), .agg (dval d s2 n2 c2 m2), undef, undef, undef, undef, undef, undef, undef, undef, undef, undef, undef, undef, undef, undef, undef, undef, undef, undef, undef, undef, undef, undef, undef, undef, undef, undef, undef], defers := [] } W) := Lib.hid (by
      intro wE xA xB s1 n1 c1 m1 s2 n2 c2 m2 hf hp hq hpq hlo hlo2
      refine hKA _ _ ?_
      have HP3 := Lib.hid hp
      have HQ3 := Lib.hid hq
      have HF3 : Hid (Fr0 w wE) := Lib.hid (HF2.out.then0 hf)
      have HY3 := Lib.hid (hf.keep HY2.out (fun h => h))
      have HL3 := Lib.hid (hf.keep HL2.out (fun h => h))
      have HXX : Hid (w2.heap.size ≤ xA ∧ w2.heap.size ≤ xB ∧ xA ≠ xB) := Lib.hid ⟨hlo, hlo2, hpq⟩
      clear hf hp hq hlo hlo2 hpq
      go_wp2
      rename_i K2 hKB
      have HREST2 : Hid (∀ (W3 : World) (pA pB : Nat) a1 k1 a2 k2, Fr (fun _ => False) wE W3 → (∃ a c, Bk W3 pA (rval m a c) 24 ∧ RV W3 m a c) → (∃ a c, Bk W3 pB (rval m a c) 24 ∧ RV W3 m a c) → pA ≠ pB → wE.heap.size ≤ pA → wE.heap.size ≤ pB → K2 { tmps := #[Value.agg (dval d sa sc ca cc), Value.agg (rval m a c), Value.agg (LAYV n b), Value.pointer (some ⟨w.heap.size, 0, none⟩), Value.pointer (some ⟨w.heap.size + 1, 0, none⟩), Value.pointer (some ⟨w.heap.size + 1 + 1, 0, none⟩), Value.bool false, Value.pointer (some ⟨xA, 0, none⟩), Value.pointer (some ⟨xB, 0, none⟩), .pointer (some ⟨pA, 0, none⟩), .pointer (some ⟨pB, 0, none⟩), undef, undef, Value.bool true, Value.bool false, Value.agg (dval d sa sc ca cc), Value.bool false, Value.agg (dval d sa sc ca cc), Value.agg (dval d s1 n1 c1 m1), Value.agg (dval d sa sc ca cc), Value.agg (dval d s2 n2 c2 m2), .agg (rval m a c), .agg (rval m a1 k1), .agg (rval m a c), .agg (rval m a2 k2), undef, undef, undef, undef, undef, undef, undef, undef, undef, undef, undef, undef, undef, undef, undef, undef, undef, undef, undef, undef, undef, undef, undef], defers := [] } W3) := Lib.hid (by
        intro W3 rA rB a1 k1 a2 k2 hf hp hq hpq hlo hlo2
        refine hKB _ _ ?_
        have HF4 : Hid (Fr0 w W3) := Lib.hid (HF3.out.then0 hf)
        have HL4 := Lib.hid (hf.keep HL3.out (fun h => h))
        have HPA : Hid (PS W3 xA rA d m) := Lib.hid ⟨⟨_, _, _, _, HP3.out.keep hf⟩, hp⟩
        have HPB : Hid (PS W3 xB rB d m) := Lib.hid ⟨⟨_, _, _, _, HQ3.out.keep hf⟩, hq⟩
        have HNE : Hid (w.heap.size + 1 + 1 < xA ∧ w.heap.size + 1 + 1 < xB ∧ w.heap.size + 1 + 1 < rA ∧ w.heap.size + 1 + 1 < rB ∧ xA ≠ xB ∧ rA ≠ rB ∧ rA ≠ xA ∧ rA ≠ xB ∧ rB ≠ xA ∧ rB ≠ xB) := Lib.hid (by
          have h1 := Bk.lt HL2.out
          have h2 := Bk.lt HP3.out.blk
          have h3 := Bk.lt HQ3.out.blk
          have h4 := HXX.out
          omega)
        clear hf hp hq hlo hlo2 hpq HP3 HQ3
        go_wp2
        rename_i K3 hKC
        have HREST3 : Hid (∀ (W5 : World), PS W5 xA rA D1 M1 → PS W5 xB rB D1 M1 → Fr0 w W5 → K3 { tmps := #[Value.agg (dval d sa sc ca cc), Value.agg (rval m a c), Value.agg (LAYV n b), Value.pointer (some ⟨w.heap.size, 0, none⟩), Value.pointer (some ⟨w.heap.size + 1, 0, none⟩), Value.pointer (some ⟨w.heap.size + 1 + 1, 0, none⟩), Value.bool false, Value.pointer (some ⟨xA, 0, none⟩), Value.pointer (some ⟨xB, 0, none⟩), Value.pointer (some ⟨rA, 0, none⟩), Value.pointer (some ⟨rB, 0, none⟩), .int .i64 E, .int .i64 E, Value.bool true, Value.bool false, Value.agg (dval d sa sc ca cc), Value.bool false, Value.agg (dval d sa sc ca cc), Value.agg (dval d s1 n1 c1 m1), Value.agg (dval d sa sc ca cc), Value.agg (dval d s2 n2 c2 m2), Value.agg (rval m a c), Value.agg (rval m a1 k1), Value.agg (rval m a c), Value.agg (rval m a2 k2), .pointer (some ⟨w.heap.size + 1 + 1, 0, none⟩), .int .i64 n, .pointer (some ⟨w.heap.size + 1 + 1, 1, none⟩), .agg (b.map B).toArray, .int .i64 E, .pointer (some ⟨w.heap.size + 1 + 1, 0, none⟩), .int .i64 n, .pointer (some ⟨w.heap.size + 1 + 1, 1, none⟩), .agg (b.map B).toArray, .int .i64 E, undef, undef, undef, undef, undef, undef, undef, undef, undef, undef, undef, undef, undef], defers := [] } W5) := Lib.hid (by
          intro W5 hA hB hf
          refine hKC _ _ ?_
          obtain ⟨⟨y1, y2, y3, y4, hA1⟩, aA, cA, hA2⟩ := hA
          obtain ⟨⟨z1, z2, z3, z4, hB1⟩, aB, cB, hB2⟩ := hB
          have HA := Lib.hid hA1
          have HB := Lib.hid hB1
          have HTA := Lib.hid hA2
          have HTB := Lib.hid hB2
          have HF5 := Lib.hid hf
          clear hA1 hB1 hA2 hB2 hf
          go_wp2_with (first | ((with_reducible show wpList _ _ _ ({ dst := _, op := Op.load 39 _, type := _, pos := _, after := _, guard := _ } :: _) _ _); refine wpList_load_row_g (by rfl) 39 _ rfl xA rfl 39 _ (0, 0) _ HA.out.blk Tryd.underlying39 rfl (HID.out _ _ _ _ _) ?_) | ((with_reducible show wpList _ _ _ ({ dst := _, op := Op.load 39 _, type := _, pos := _, after := _, guard := _ } :: _) _ _); refine wpList_load_row_g (by rfl) 39 _ rfl xB rfl 39 _ (0, 0) _ HB.out.blk Tryd.underlying39 rfl (HID.out _ _ _ _ _) ?_) | ((with_reducible show wpList _ _ _ ({ dst := _, op := Op.load 24 _, type := _, pos := _, after := _, guard := _ } :: _) _ _); refine wpList_load_row_g (by rfl) 24 _ rfl rA rfl 24 _ (0, 0) _ HTA.out.1 Tryd.underlying24 rfl (HIR.out _ _ _) ?_) | ((with_reducible show wpList _ _ _ ({ dst := _, op := Op.load 24 _, type := _, pos := _, after := _, guard := _ } :: _) _ _); refine wpList_load_row_g (by rfl) 24 _ rfl rB rfl 24 _ (0, 0) _ HTB.out.1 Tryd.underlying24 rfl (HIR.out _ _ _) ?_) | (go_at_call 24; (with_reducible refine (HSM.out _ _ _ _ _ _ _ _ _ HA.out.v HB.out.v).mono ?_); rintro e w8 ⟨rfl, hf8⟩; have HF8 := Lib.hid (HF5.out.then0 hf8); have HTA8 := Lib.hid (hf8.keep HTA.out.1 (fun h => h)); have HTB8 := Lib.hid (hf8.keep HTB.out.1 (fun h => h)); have HVA8 := Lib.hid (HTA.out.2.keep hf8); have HVB8 := Lib.hid (HTB.out.2.keep hf8); clear hf8) | ((with_reducible show wpList _ _ _ ({ dst := _, op := Op.load 24 _, type := _, pos := _, after := _, guard := _ } :: _) _ _); refine wpList_load_row_g (by rfl) 24 _ rfl rA rfl 24 _ (0, 0) _ HTA8.out Tryd.underlying24 rfl (HIR.out _ _ _) ?_) | ((with_reducible show wpList _ _ _ ({ dst := _, op := Op.load 24 _, type := _, pos := _, after := _, guard := _ } :: _) _ _); refine wpList_load_row_g (by rfl) 24 _ rfl rB rfl 24 _ (0, 0) _ HTB8.out Tryd.underlying24 rfl (HIR.out _ _ _) ?_) | (go_at_call 19; (with_reducible refine (HRS.out _ _ _ _ _ HVA8.out HVB8.out).mono ?_); rintro e w9 ⟨rfl, hf9⟩; have HF9 := Lib.hid (HF8.out.then0 hf9); clear hf9))
          go_ret
          exact ⟨rfl, HF9.out⟩
          )
        clear hKC
        refine wp_region_noPanic ?_
        refine wp_region_held_drew (S := (fun W : World => Bk W (w.heap.size + 1 + 1) (LAYV n b) 47)) (by kernel_rfl) (Bk.drew HL4.out) (fun hHeld0 => ?_)
        have HPAd := Lib.hid (HPA.out.keep0 (Fr.drew (Fr.refl _ _)))
        have HPBd := Lib.hid (HPB.out.keep0 (Fr.drew (Fr.refl _ _)))
        have HFd : Hid (Fr0 w W3.drew) := Lib.hid (Fr.drew HF4.out)
        have HSd : Hid (Sh W3.drew) := Lib.hid (HSH.out.keep0 HFd.out)
        have HNSA : Hid (¬ (1 = xA ∨ 1 = rA) ∧ ¬ (0 = xA ∨ 0 = rA)) := Lib.hid (by obtain ⟨⟨t, hk⟩, ⟨u, hb⟩⟩ := HSH.out; have h1 := Bk.lt hk; have h3 := Bk.lt hb; have h2 := HNE.out; omega)
        have HNSB : Hid (¬ (1 = xB ∨ 1 = rB) ∧ ¬ (0 = xB ∨ 0 = rB)) := Lib.hid (by obtain ⟨⟨t, hk⟩, ⟨u, hb⟩⟩ := HSH.out; have h1 := Bk.lt hk; have h3 := Bk.lt hb; have h2 := HNE.out; omega)
        have HNEA : Hid (rA ≠ xA ∧ xB ≠ xA ∧ xB ≠ rA ∧ rB ≠ xA ∧ rB ≠ rA) := Lib.hid (by have := HNE.out; omega)
        have HNEB : Hid (rB ≠ xB ∧ xA ≠ xB ∧ xA ≠ rB ∧ rA ≠ xB ∧ rA ≠ rB) := Lib.hid (by have := HNE.out; omega)
        generalize W3.drew = wd at *
        refine tk0 (i := 0) (v := .pointer (some ⟨w.heap.size + 1 + 1, 0, none⟩)) rfl hHeld0 ?_
        simp only [Act.put, zA, zB, zC, zD, zE, zF]
        refine tk (i := 1) (v := .int .i64 n) rfl (Or.inl ⟨by kernel_rfl, fun w hSw => by have hcl := (fun _ h => lay_cell h) w hSw; go_simp⟩) hHeld0 ?_
        simp only [Act.put, zA, zB, zC, zD, zE, zF]
        refine tk0 (i := 2) (v := .pointer (some ⟨w.heap.size + 1 + 1, 1, none⟩)) rfl hHeld0 ?_
        simp only [Act.put, zA, zB, zC, zD, zE, zF]
        refine tk (i := 3) (v := .agg (b.map B).toArray) rfl (yieldsIf_load_mid (by kernel_rfl) 27 _ rfl (w.heap.size + 1 + 1) 1 rfl (b.map B) _ (fun w h => lay_range h) Tryd.underlying27 rfl HIL.out) hHeld0 ?_
        simp only [Act.put, zA, zB, zC, zD, zE, zF]
        refine tk0 (i := 5) (v := .pointer (some ⟨w.heap.size + 1 + 1, 0, none⟩)) rfl hHeld0 ?_
        simp only [Act.put, zA, zB, zC, zD, zE, zF]
        refine tk (i := 6) (v := .int .i64 n) rfl (Or.inl ⟨by kernel_rfl, fun w hSw => by have hcl := (fun _ h => lay_cell h) w hSw; go_simp⟩) hHeld0 ?_
        simp only [Act.put, zA, zB, zC, zD, zE, zF]
        refine tk0 (i := 7) (v := .pointer (some ⟨w.heap.size + 1 + 1, 1, none⟩)) rfl hHeld0 ?_
        simp only [Act.put, zA, zB, zC, zD, zE, zF]
        refine tk (i := 8) (v := .agg (b.map B).toArray) rfl (yieldsIf_load_mid (by kernel_rfl) 27 _ rfl (w.heap.size + 1 + 1) 1 rfl (b.map B) _ (fun w h => lay_range h) Tryd.underlying27 rfl HIL.out) hHeld0 ?_
        simp only [Act.put, zA, zB, zC, zD, zE, zF]
        change wpAnyH _ _ _ _ _ 4 #[true, true, true, true, false, true, true, true, true, false, false, false] _ _
        refine wpAnyH_ready (rs := [4]) (by kernel_rfl) (by simp) ?_
        refine AllReadyH.cons rfl (fun K hK => ?_) AllReadyH.nil
        simp only [zA, zB, zC]
        refine (if_pos (by kernel_rfl)).mpr ?_
        go_wp2_with fail
        refine (HWA.out HC9.out xA rA _ HNEA.out.1 HSd.out HPAd.out).mono ?_
        rintro e wx0 ⟨rfl, hps0, hfx0⟩
        dsimp only
        have HQB0 := Lib.hid (PS.past HPBd.out HOK.out HPAd.out hfx0 HNEA.out.1 HNEA.out.2.1 HNEA.out.2.2.1 HNEA.out.2.2.2.1 HNEA.out.2.2.2.2)
        have HQA0 := Lib.hid hps0
        have HSH0 := Lib.hid (Sh.keep HSd.out hfx0 HNSA.out.1 HNSA.out.2)
        have HFX0 : Hid (Fr0 w wx0) := Lib.hid (HFd.out.then hfx0 (fun i hi e => by have := HNE.out; omega))
        refine hK.out _ _ (hfx0.keep (hHeld0) (by have := HNE.out; omega)) (fun hHeld1 => ?_)
        clear hK K hHeld0
        clear hfx0 hps0
        change wpAnyH _ _ _ _ _ 3 #[true, true, true, true, true, true, true, true, true, false, false, false] _ _
        refine wpAnyH_ready (rs := [9]) (by kernel_rfl) (by simp) ?_
        refine AllReadyH.cons rfl (fun K hK => ?_) AllReadyH.nil
        simp only [zA, zB, zC]
        refine (if_pos (by kernel_rfl)).mpr ?_
        go_wp2_with fail
        refine (HWB.out HC9.out xB rB _ HNEB.out.1 HQB0.out).mono ?_
        rintro e wx1 ⟨rfl, hps1, hfx1⟩
        dsimp only
        have HQA1 := Lib.hid (PS.past HQA0.out HOE.out HQB0.out hfx1 HNEB.out.1 HNEB.out.2.1 HNEB.out.2.2.1 HNEB.out.2.2.2.1 HNEB.out.2.2.2.2)
        have HQB1 := Lib.hid hps1
        have HSH1 := Lib.hid (Sh.keep HSH0.out hfx1 HNSB.out.1 HNSB.out.2)
        have HFX1 : Hid (Fr0 w wx1) := Lib.hid (HFX0.out.then hfx1 (fun i hi e => by have := HNE.out; omega))
        refine hK.out _ _ (hfx1.keep (hHeld1) (by have := HNE.out; omega)) (fun hHeld2 => ?_)
        clear hK K hHeld1
        clear hfx1 hps1
        refine tk0 (i := 10) (v := .int .i64 E) rfl hHeld2 ?_
        simp only [Act.put, zA, zB, zC, zD, zE, zF]
        refine tk0 (i := 11) (v := .int .i64 E) rfl hHeld2 ?_
        simp only [Act.put, zA, zB, zC, zD, zE, zF]
        change wpAnyH _ _ _ _ _ 0 #[true, true, true, true, true, true, true, true, true, true, true, true] _ _
        refine wpAnyH_done (by kernel_rfl) ?_ _
        refine NoPanic.normal ?_
        have HEND := Lib.hid hHeld2
        clear hHeld2
        exact HREST3.out wx1 HQA1.out HQB1.out HFX1.out
        )
      clear hKB
      refine wp_region_noPanic ?_
      refine wp_region_held_drew (S := (fun W : World => Fr (fun _ => False) wE W)) (by kernel_rfl) (Fr.drew (Fr.refl _ _)) (fun hHeld0 => ?_)
      generalize wE.drew = wd at *
      refine tk (i := 0) (v := .agg (rval m a c)) rfl (yields_row (by kernel_rfl) 24 _ rfl (w.heap.size + 1) rfl 24 (rval m a c) (0, 0) _ (fun _ h => Fr.keep h HY3.out (fun h => h)) Tryd.underlying24 rfl (HIR.out _ _ _)) hHeld0 ?_
      simp only [Act.put, zA, zB, zC, zD, zE, zF]
      refine tk (i := 2) (v := .agg (rval m a c)) rfl (yields_row (by kernel_rfl) 24 _ rfl (w.heap.size + 1) rfl 24 (rval m a c) (0, 0) _ (fun _ h => Fr.keep h HY3.out (fun h => h)) Tryd.underlying24 rfl (HIR.out _ _ _)) hHeld0 ?_
      simp only [Act.put, zA, zB, zC, zD, zE, zF]
      change wpAnyH _ _ _ _ _ 6 #[true, false, true, false, false, false, false, false] _ _
      refine wpAnyH_ready (rs := [1, 4, 5]) (by kernel_rfl) (by simp) ?_
      refine AllReadyH.cons rfl (fun K hK => ?_) (AllReadyH.cons rfl (fun K hK => ?_) (AllReadyH.cons rfl (fun K hK => ?_) (AllReadyH.nil)))
      · simp only [zA, zB, zC]
        refine (if_pos (by kernel_rfl)).mpr ?_
        go_wp2_with fail
        refine (HRC.out _ (HF3.out.then0 hHeld0)).mono ?_
        rintro e wx0 ⟨a1, k1, rfl, hown0, hfx0⟩
        dsimp only
        have HO0 := Lib.hid hown0
        clear hown0
        refine hK.out _ _ (hHeld0.then0 hfx0) (fun hHeld1 => ?_)
        clear hK K hHeld0
        clear hfx0
        change wpAnyH _ _ _ _ _ 5 #[true, true, true, false, false, false, false, false] _ _
        refine wpAnyH_ready (rs := [3, 4, 5]) (by kernel_rfl) (by simp) ?_
        refine AllReadyH.cons rfl (fun K hK => ?_) (AllReadyH.cons rfl (fun K hK => ?_) (AllReadyH.cons rfl (fun K hK => ?_) (AllReadyH.nil)))
        · simp only [zA, zB, zC]
          refine (if_pos (by kernel_rfl)).mpr ?_
          go_wp2_with fail
          refine (HRC.out _ (HF3.out.then0 hHeld1)).mono ?_
          rintro e wx1 ⟨a2, k2, rfl, hown1, hfx1⟩
          dsimp only
          replace HO0 := Lib.hid (RV.keep HO0.out hfx1)
          have HO1 := Lib.hid hown1
          clear hown1
          refine hK.out _ _ (hHeld1.then0 hfx1) (fun hHeld2 => ?_)
          clear hK K hHeld1
          clear hfx1
          change wpAnyH _ _ _ _ _ 4 #[true, true, true, true, false, false, false, false] _ _
          refine wpAnyH_ready (rs := [4, 5]) (by kernel_rfl) (by simp) ?_
          refine AllReadyH.cons rfl (fun K hK => ?_) (AllReadyH.cons rfl (fun K hK => ?_) (AllReadyH.nil))
          · simp only [zA, zB, zC]
            refine (if_pos (by kernel_rfl)).mpr ?_
            go_wp2_with fail
            have hfx2 : Fr (fun _ => False) wx1 (wx1.alloc (.cells RZ 24)) := Fr.alloc (Fr.refl _ _) _
            have HLO0 : Hid (wE.heap.size ≤ wx1.heap.size) := Lib.hid (Fr.size hHeld2)
            replace HO0 := Lib.hid (RV.keep HO0.out hfx2)
            replace HO1 := Lib.hid (RV.keep HO1.out hfx2)
            have HZ0 : Hid (Bk (wx1.alloc (.cells RZ 24)) wx1.heap.size RZ 24) := Lib.hid (Bk.new wx1 _)
            have HB0 : Hid (wx1.heap.size < (wx1.alloc (.cells RZ 24)).heap.size) := Lib.hid (Bk.lt HZ0.out)
            refine hK.out _ _ (hHeld2.then0 hfx2) (fun hHeld3 => ?_)
            clear hK K hHeld2
            clear hfx2
            generalize wx1.heap.size = pA at *
            generalize (wx1.alloc (.cells RZ 24)) = wx2 at *
            change wpAnyH _ _ _ _ _ 3 #[true, true, true, true, true, false, false, false] _ _
            refine wpAnyH_ready (rs := [5]) (by kernel_rfl) (by simp) ?_
            refine AllReadyH.cons rfl (fun K hK => ?_) AllReadyH.nil
            simp only [zA, zB, zC]
            refine (if_pos (by kernel_rfl)).mpr ?_
            go_wp2_with fail
            have hfx3 : Fr (fun _ => False) wx2 (wx2.alloc (.cells RZ 24)) := Fr.alloc (Fr.refl _ _) _
            have HLO1 : Hid (wE.heap.size ≤ wx2.heap.size) := Lib.hid (Fr.size hHeld3)
            have HPQ : Hid (pA ≠ wx2.heap.size) := Lib.hid (by have h1 := Bk.lt HZ0.out; omega)
            replace HO0 := Lib.hid (RV.keep HO0.out hfx3)
            replace HO1 := Lib.hid (RV.keep HO1.out hfx3)
            replace HZ0 := Lib.hid (hfx3.keep HZ0.out (fun h => h))
            have HZ1 : Hid (Bk (wx2.alloc (.cells RZ 24)) wx2.heap.size RZ 24) := Lib.hid (Bk.new wx2 _)
            have HB1 : Hid (wx2.heap.size < (wx2.alloc (.cells RZ 24)).heap.size) := Lib.hid (Bk.lt HZ1.out)
            replace HB0 : Hid (pA < (wx2.alloc (.cells RZ 24)).heap.size) := Lib.hid (Bk.lt HZ0.out)
            refine hK.out _ _ (hHeld3.then0 hfx3) (fun hHeld4 => ?_)
            clear hK K hHeld3
            clear hfx3
            generalize wx2.heap.size = pB at *
            generalize (wx2.alloc (.cells RZ 24)) = wx3 at *
            change wpAnyH _ _ _ _ _ 2 #[true, true, true, true, true, true, false, false] _ _
            refine wpAnyH_ready (rs := [6]) (by kernel_rfl) (by simp) ?_
            refine AllReadyH.cons rfl (fun K hK => ?_) AllReadyH.nil
            simp only [zA, zB, zC]
            refine (if_pos (by kernel_rfl)).mpr ?_
            refine wp_store_row 24 _ _ rfl pA (rval m a1 k1) rfl rfl 24 RZ HZ0.out (HIR.out _ _ _) rfl (HRO.out _ _ _) ?_
            have hfx4 := Fr.row1 wx3 pA (rval m a1 k1)
            replace HO0 := Lib.hid (RV.pastR HO0.out hfx4 HZ0.out)
            replace HO1 := Lib.hid (RV.pastR HO1.out hfx4 HZ0.out)
            replace HZ1 := Lib.hid ((show Bk (wx3.setRow pA (rval m a1 k1)) pB RZ 24 from ArrKit.Bk.rowOther HZ1.out _ (HPQ.out.symm)))
            have HX0' : Hid (Bk (wx3.setRow pA (rval m a1 k1)) pA (rval m a1 k1) 24) := Lib.hid (ArrKit.Bk.row HZ0.out _)
            clear HZ0
            have HZ0 := HX0'
            clear HX0'
            refine hK.out _ _ (ArrKit.Fr.row hHeld4 _ _ (.inl HLO0.out)) (fun hHeld5 => ?_)
            clear hK K hHeld4
            clear hfx4
            generalize (wx3.setRow pA (rval m a1 k1)) = wx4 at *
            change wpAnyH _ _ _ _ _ 1 #[true, true, true, true, true, true, true, false] _ _
            refine wpAnyH_ready (rs := [7]) (by kernel_rfl) (by simp) ?_
            refine AllReadyH.cons rfl (fun K hK => ?_) AllReadyH.nil
            simp only [zA, zB, zC]
            refine (if_pos (by kernel_rfl)).mpr ?_
            refine wp_store_row 24 _ _ rfl pB (rval m a2 k2) rfl rfl 24 RZ HZ1.out (HIR.out _ _ _) rfl (HRO.out _ _ _) ?_
            have hfx5 := Fr.row1 wx4 pB (rval m a2 k2)
            replace HO0 := Lib.hid (RV.pastR HO0.out hfx5 HZ1.out)
            replace HO1 := Lib.hid (RV.pastR HO1.out hfx5 HZ1.out)
            replace HZ0 := Lib.hid ((show Bk (wx4.setRow pB (rval m a2 k2)) pA (rval m a1 k1) 24 from ArrKit.Bk.rowOther HZ0.out _ (HPQ.out)))
            have HX1' : Hid (Bk (wx4.setRow pB (rval m a2 k2)) pB (rval m a2 k2) 24) := Lib.hid (ArrKit.Bk.row HZ1.out _)
            clear HZ1
            have HZ1 := HX1'
            clear HX1'
            refine hK.out _ _ (ArrKit.Fr.row hHeld5 _ _ (.inl HLO1.out)) (fun hHeld6 => ?_)
            clear hK K hHeld5
            clear hfx5
            generalize (wx4.setRow pB (rval m a2 k2)) = wx5 at *
            change wpAnyH _ _ _ _ _ 0 #[true, true, true, true, true, true, true, true] _ _
            refine wpAnyH_done (by kernel_rfl) ?_ _
            refine NoPanic.normal ?_
            have HEND := Lib.hid hHeld6
            clear hHeld6
            exact HREST2.out wx5 pA pB a1 k1 a2 k2 HEND.out ⟨a1, k1, HZ0.out, HO0.out⟩ ⟨a2, k2, HZ1.out, HO1.out⟩ HPQ.out HLO0.out HLO1.out
          · simp only [zA, zB, zC]
            refine (if_pos (by kernel_rfl)).mpr ?_
            go_wp2_with fail
            have hfx2 : Fr (fun _ => False) wx1 (wx1.alloc (.cells RZ 24)) := Fr.alloc (Fr.refl _ _) _
            have HLO1 : Hid (wE.heap.size ≤ wx1.heap.size) := Lib.hid (Fr.size hHeld2)
            replace HO0 := Lib.hid (RV.keep HO0.out hfx2)
            replace HO1 := Lib.hid (RV.keep HO1.out hfx2)
            have HZ1 : Hid (Bk (wx1.alloc (.cells RZ 24)) wx1.heap.size RZ 24) := Lib.hid (Bk.new wx1 _)
            have HB1 : Hid (wx1.heap.size < (wx1.alloc (.cells RZ 24)).heap.size) := Lib.hid (Bk.lt HZ1.out)
            refine hK.out _ _ (hHeld2.then0 hfx2) (fun hHeld3 => ?_)
            clear hK K hHeld2
            clear hfx2
            generalize wx1.heap.size = pB at *
            generalize (wx1.alloc (.cells RZ 24)) = wx2 at *
            change wpAnyH _ _ _ _ _ 3 #[true, true, true, true, false, true, false, false] _ _
            refine wpAnyH_ready (rs := [4]) (by kernel_rfl) (by simp) ?_
            refine AllReadyH.cons rfl (fun K hK => ?_) AllReadyH.nil
            simp only [zA, zB, zC]
            refine (if_pos (by kernel_rfl)).mpr ?_
            go_wp2_with fail
            have hfx3 : Fr (fun _ => False) wx2 (wx2.alloc (.cells RZ 24)) := Fr.alloc (Fr.refl _ _) _
            have HLO0 : Hid (wE.heap.size ≤ wx2.heap.size) := Lib.hid (Fr.size hHeld3)
            have HPQ : Hid (wx2.heap.size ≠ pB) := Lib.hid (by have h1 := Bk.lt HZ1.out; omega)
            replace HO0 := Lib.hid (RV.keep HO0.out hfx3)
            replace HO1 := Lib.hid (RV.keep HO1.out hfx3)
            replace HZ1 := Lib.hid (hfx3.keep HZ1.out (fun h => h))
            have HZ0 : Hid (Bk (wx2.alloc (.cells RZ 24)) wx2.heap.size RZ 24) := Lib.hid (Bk.new wx2 _)
            have HB0 : Hid (wx2.heap.size < (wx2.alloc (.cells RZ 24)).heap.size) := Lib.hid (Bk.lt HZ0.out)
            replace HB1 : Hid (pB < (wx2.alloc (.cells RZ 24)).heap.size) := Lib.hid (Bk.lt HZ1.out)
            refine hK.out _ _ (hHeld3.then0 hfx3) (fun hHeld4 => ?_)
            clear hK K hHeld3
            clear hfx3
            generalize wx2.heap.size = pA at *
            generalize (wx2.alloc (.cells RZ 24)) = wx3 at *
            change wpAnyH _ _ _ _ _ 2 #[true, true, true, true, true, true, false, false] _ _
            refine wpAnyH_ready (rs := [6]) (by kernel_rfl) (by simp) ?_
            refine AllReadyH.cons rfl (fun K hK => ?_) AllReadyH.nil
            simp only [zA, zB, zC]
            refine (if_pos (by kernel_rfl)).mpr ?_
            refine wp_store_row 24 _ _ rfl pA (rval m a1 k1) rfl rfl 24 RZ HZ0.out (HIR.out _ _ _) rfl (HRO.out _ _ _) ?_
            have hfx4 := Fr.row1 wx3 pA (rval m a1 k1)
            replace HO0 := Lib.hid (RV.pastR HO0.out hfx4 HZ0.out)
            replace HO1 := Lib.hid (RV.pastR HO1.out hfx4 HZ0.out)
            replace HZ1 := Lib.hid ((show Bk (wx3.setRow pA (rval m a1 k1)) pB RZ 24 from ArrKit.Bk.rowOther HZ1.out _ (HPQ.out.symm)))
            have HX0' : Hid (Bk (wx3.setRow pA (rval m a1 k1)) pA (rval m a1 k1) 24) := Lib.hid (ArrKit.Bk.row HZ0.out _)
            clear HZ0
            have HZ0 := HX0'
            clear HX0'
            refine hK.out _ _ (ArrKit.Fr.row hHeld4 _ _ (.inl HLO0.out)) (fun hHeld5 => ?_)
            clear hK K hHeld4
            clear hfx4
            generalize (wx3.setRow pA (rval m a1 k1)) = wx4 at *
            change wpAnyH _ _ _ _ _ 1 #[true, true, true, true, true, true, true, false] _ _
            refine wpAnyH_ready (rs := [7]) (by kernel_rfl) (by simp) ?_
            refine AllReadyH.cons rfl (fun K hK => ?_) AllReadyH.nil
            simp only [zA, zB, zC]
            refine (if_pos (by kernel_rfl)).mpr ?_
            refine wp_store_row 24 _ _ rfl pB (rval m a2 k2) rfl rfl 24 RZ HZ1.out (HIR.out _ _ _) rfl (HRO.out _ _ _) ?_
            have hfx5 := Fr.row1 wx4 pB (rval m a2 k2)
            replace HO0 := Lib.hid (RV.pastR HO0.out hfx5 HZ1.out)
            replace HO1 := Lib.hid (RV.pastR HO1.out hfx5 HZ1.out)
            replace HZ0 := Lib.hid ((show Bk (wx4.setRow pB (rval m a2 k2)) pA (rval m a1 k1) 24 from ArrKit.Bk.rowOther HZ0.out _ (HPQ.out)))
            have HX1' : Hid (Bk (wx4.setRow pB (rval m a2 k2)) pB (rval m a2 k2) 24) := Lib.hid (ArrKit.Bk.row HZ1.out _)
            clear HZ1
            have HZ1 := HX1'
            clear HX1'
            refine hK.out _ _ (ArrKit.Fr.row hHeld5 _ _ (.inl HLO1.out)) (fun hHeld6 => ?_)
            clear hK K hHeld5
            clear hfx5
            generalize (wx4.setRow pB (rval m a2 k2)) = wx5 at *
            change wpAnyH _ _ _ _ _ 0 #[true, true, true, true, true, true, true, true] _ _
            refine wpAnyH_done (by kernel_rfl) ?_ _
            refine NoPanic.normal ?_
            have HEND := Lib.hid hHeld6
            clear hHeld6
            exact HREST2.out wx5 pA pB a1 k1 a2 k2 HEND.out ⟨a1, k1, HZ0.out, HO0.out⟩ ⟨a2, k2, HZ1.out, HO1.out⟩ HPQ.out HLO0.out HLO1.out
        · simp only [zA, zB, zC]
          refine (if_pos (by kernel_rfl)).mpr ?_
          go_wp2_with fail
          have hfx1 : Fr (fun _ => False) wx0 (wx0.alloc (.cells RZ 24)) := Fr.alloc (Fr.refl _ _) _
          have HLO0 : Hid (wE.heap.size ≤ wx0.heap.size) := Lib.hid (Fr.size hHeld1)
          replace HO0 := Lib.hid (RV.keep HO0.out hfx1)
          have HZ0 : Hid (Bk (wx0.alloc (.cells RZ 24)) wx0.heap.size RZ 24) := Lib.hid (Bk.new wx0 _)
          have HB0 : Hid (wx0.heap.size < (wx0.alloc (.cells RZ 24)).heap.size) := Lib.hid (Bk.lt HZ0.out)
          refine hK.out _ _ (hHeld1.then0 hfx1) (fun hHeld2 => ?_)
          clear hK K hHeld1
          clear hfx1
          generalize wx0.heap.size = pA at *
          generalize (wx0.alloc (.cells RZ 24)) = wx1 at *
          change wpAnyH _ _ _ _ _ 4 #[true, true, true, false, true, false, false, false] _ _
          refine wpAnyH_ready (rs := [3, 5]) (by kernel_rfl) (by simp) ?_
          refine AllReadyH.cons rfl (fun K hK => ?_) (AllReadyH.cons rfl (fun K hK => ?_) (AllReadyH.nil))
          · simp only [zA, zB, zC]
            refine (if_pos (by kernel_rfl)).mpr ?_
            go_wp2_with fail
            refine (HRC.out _ (HF3.out.then0 hHeld2)).mono ?_
            rintro e wx2 ⟨a2, k2, rfl, hown1, hfx2⟩
            dsimp only
            replace HO0 := Lib.hid (RV.keep HO0.out hfx2)
            replace HZ0 := Lib.hid (hfx2.keep HZ0.out (fun h => h))
            have HO1 := Lib.hid hown1
            clear hown1
            replace HB0 : Hid (pA < wx2.heap.size) := Lib.hid (Bk.lt HZ0.out)
            refine hK.out _ _ (hHeld2.then0 hfx2) (fun hHeld3 => ?_)
            clear hK K hHeld2
            clear hfx2
            change wpAnyH _ _ _ _ _ 3 #[true, true, true, true, true, false, false, false] _ _
            refine wpAnyH_ready (rs := [5]) (by kernel_rfl) (by simp) ?_
            refine AllReadyH.cons rfl (fun K hK => ?_) AllReadyH.nil
            simp only [zA, zB, zC]
            refine (if_pos (by kernel_rfl)).mpr ?_
            go_wp2_with fail
            have hfx3 : Fr (fun _ => False) wx2 (wx2.alloc (.cells RZ 24)) := Fr.alloc (Fr.refl _ _) _
            have HLO1 : Hid (wE.heap.size ≤ wx2.heap.size) := Lib.hid (Fr.size hHeld3)
            have HPQ : Hid (pA ≠ wx2.heap.size) := Lib.hid (by have h1 := Bk.lt HZ0.out; omega)
            replace HO0 := Lib.hid (RV.keep HO0.out hfx3)
            replace HZ0 := Lib.hid (hfx3.keep HZ0.out (fun h => h))
            replace HO1 := Lib.hid (RV.keep HO1.out hfx3)
            have HZ1 : Hid (Bk (wx2.alloc (.cells RZ 24)) wx2.heap.size RZ 24) := Lib.hid (Bk.new wx2 _)
            have HB1 : Hid (wx2.heap.size < (wx2.alloc (.cells RZ 24)).heap.size) := Lib.hid (Bk.lt HZ1.out)
            replace HB0 : Hid (pA < (wx2.alloc (.cells RZ 24)).heap.size) := Lib.hid (Bk.lt HZ0.out)
            refine hK.out _ _ (hHeld3.then0 hfx3) (fun hHeld4 => ?_)
            clear hK K hHeld3
            clear hfx3
            generalize wx2.heap.size = pB at *
            generalize (wx2.alloc (.cells RZ 24)) = wx3 at *
            change wpAnyH _ _ _ _ _ 2 #[true, true, true, true, true, true, false, false] _ _
            refine wpAnyH_ready (rs := [6]) (by kernel_rfl) (by simp) ?_
            refine AllReadyH.cons rfl (fun K hK => ?_) AllReadyH.nil
            simp only [zA, zB, zC]
            refine (if_pos (by kernel_rfl)).mpr ?_
            refine wp_store_row 24 _ _ rfl pA (rval m a1 k1) rfl rfl 24 RZ HZ0.out (HIR.out _ _ _) rfl (HRO.out _ _ _) ?_
            have hfx4 := Fr.row1 wx3 pA (rval m a1 k1)
            replace HO0 := Lib.hid (RV.pastR HO0.out hfx4 HZ0.out)
            replace HO1 := Lib.hid (RV.pastR HO1.out hfx4 HZ0.out)
            replace HZ1 := Lib.hid ((show Bk (wx3.setRow pA (rval m a1 k1)) pB RZ 24 from ArrKit.Bk.rowOther HZ1.out _ (HPQ.out.symm)))
            have HX0' : Hid (Bk (wx3.setRow pA (rval m a1 k1)) pA (rval m a1 k1) 24) := Lib.hid (ArrKit.Bk.row HZ0.out _)
            clear HZ0
            have HZ0 := HX0'
            clear HX0'
            refine hK.out _ _ (ArrKit.Fr.row hHeld4 _ _ (.inl HLO0.out)) (fun hHeld5 => ?_)
            clear hK K hHeld4
            clear hfx4
            generalize (wx3.setRow pA (rval m a1 k1)) = wx4 at *
            change wpAnyH _ _ _ _ _ 1 #[true, true, true, true, true, true, true, false] _ _
            refine wpAnyH_ready (rs := [7]) (by kernel_rfl) (by simp) ?_
            refine AllReadyH.cons rfl (fun K hK => ?_) AllReadyH.nil
            simp only [zA, zB, zC]
            refine (if_pos (by kernel_rfl)).mpr ?_
            refine wp_store_row 24 _ _ rfl pB (rval m a2 k2) rfl rfl 24 RZ HZ1.out (HIR.out _ _ _) rfl (HRO.out _ _ _) ?_
            have hfx5 := Fr.row1 wx4 pB (rval m a2 k2)
            replace HO0 := Lib.hid (RV.pastR HO0.out hfx5 HZ1.out)
            replace HZ0 := Lib.hid ((show Bk (wx4.setRow pB (rval m a2 k2)) pA (rval m a1 k1) 24 from ArrKit.Bk.rowOther HZ0.out _ (HPQ.out)))
            replace HO1 := Lib.hid (RV.pastR HO1.out hfx5 HZ1.out)
            have HX1' : Hid (Bk (wx4.setRow pB (rval m a2 k2)) pB (rval m a2 k2) 24) := Lib.hid (ArrKit.Bk.row HZ1.out _)
            clear HZ1
            have HZ1 := HX1'
            clear HX1'
            refine hK.out _ _ (ArrKit.Fr.row hHeld5 _ _ (.inl HLO1.out)) (fun hHeld6 => ?_)
            clear hK K hHeld5
            clear hfx5
            generalize (wx4.setRow pB (rval m a2 k2)) = wx5 at *
            change wpAnyH _ _ _ _ _ 0 #[true, true, true, true, true, true, true, true] _ _
            refine wpAnyH_done (by kernel_rfl) ?_ _
            refine NoPanic.normal ?_
            have HEND := Lib.hid hHeld6
            clear hHeld6
            exact HREST2.out wx5 pA pB a1 k1 a2 k2 HEND.out ⟨a1, k1, HZ0.out, HO0.out⟩ ⟨a2, k2, HZ1.out, HO1.out⟩ HPQ.out HLO0.out HLO1.out
          · simp only [zA, zB, zC]
            refine (if_pos (by kernel_rfl)).mpr ?_
            go_wp2_with fail
            have hfx2 : Fr (fun _ => False) wx1 (wx1.alloc (.cells RZ 24)) := Fr.alloc (Fr.refl _ _) _
            have HLO1 : Hid (wE.heap.size ≤ wx1.heap.size) := Lib.hid (Fr.size hHeld2)
            have HPQ : Hid (pA ≠ wx1.heap.size) := Lib.hid (by have h1 := Bk.lt HZ0.out; omega)
            replace HO0 := Lib.hid (RV.keep HO0.out hfx2)
            replace HZ0 := Lib.hid (hfx2.keep HZ0.out (fun h => h))
            have HZ1 : Hid (Bk (wx1.alloc (.cells RZ 24)) wx1.heap.size RZ 24) := Lib.hid (Bk.new wx1 _)
            have HB1 : Hid (wx1.heap.size < (wx1.alloc (.cells RZ 24)).heap.size) := Lib.hid (Bk.lt HZ1.out)
            replace HB0 : Hid (pA < (wx1.alloc (.cells RZ 24)).heap.size) := Lib.hid (Bk.lt HZ0.out)
            refine hK.out _ _ (hHeld2.then0 hfx2) (fun hHeld3 => ?_)
            clear hK K hHeld2
            clear hfx2
            generalize wx1.heap.size = pB at *
            generalize (wx1.alloc (.cells RZ 24)) = wx2 at *
            change wpAnyH _ _ _ _ _ 3 #[true, true, true, false, true, true, false, false] _ _
            refine wpAnyH_ready (rs := [3]) (by kernel_rfl) (by simp) ?_
            refine AllReadyH.cons rfl (fun K hK => ?_) AllReadyH.nil
            simp only [zA, zB, zC]
            refine (if_pos (by kernel_rfl)).mpr ?_
            go_wp2_with fail
            refine (HRC.out _ (HF3.out.then0 hHeld3)).mono ?_
            rintro e wx3 ⟨a2, k2, rfl, hown1, hfx3⟩
            dsimp only
            replace HO0 := Lib.hid (RV.keep HO0.out hfx3)
            replace HZ0 := Lib.hid (hfx3.keep HZ0.out (fun h => h))
            replace HZ1 := Lib.hid (hfx3.keep HZ1.out (fun h => h))
            have HO1 := Lib.hid hown1
            clear hown1
            replace HB0 : Hid (pA < wx3.heap.size) := Lib.hid (Bk.lt HZ0.out)
            replace HB1 : Hid (pB < wx3.heap.size) := Lib.hid (Bk.lt HZ1.out)
            refine hK.out _ _ (hHeld3.then0 hfx3) (fun hHeld4 => ?_)
            clear hK K hHeld3
            clear hfx3
            change wpAnyH _ _ _ _ _ 2 #[true, true, true, true, true, true, false, false] _ _
            refine wpAnyH_ready (rs := [6]) (by kernel_rfl) (by simp) ?_
            refine AllReadyH.cons rfl (fun K hK => ?_) AllReadyH.nil
            simp only [zA, zB, zC]
            refine (if_pos (by kernel_rfl)).mpr ?_
            refine wp_store_row 24 _ _ rfl pA (rval m a1 k1) rfl rfl 24 RZ HZ0.out (HIR.out _ _ _) rfl (HRO.out _ _ _) ?_
            have hfx4 := Fr.row1 wx3 pA (rval m a1 k1)
            replace HO0 := Lib.hid (RV.pastR HO0.out hfx4 HZ0.out)
            replace HZ1 := Lib.hid ((show Bk (wx3.setRow pA (rval m a1 k1)) pB RZ 24 from ArrKit.Bk.rowOther HZ1.out _ (HPQ.out.symm)))
            replace HO1 := Lib.hid (RV.pastR HO1.out hfx4 HZ0.out)
            have HX0' : Hid (Bk (wx3.setRow pA (rval m a1 k1)) pA (rval m a1 k1) 24) := Lib.hid (ArrKit.Bk.row HZ0.out _)
            clear HZ0
            have HZ0 := HX0'
            clear HX0'
            refine hK.out _ _ (ArrKit.Fr.row hHeld4 _ _ (.inl HLO0.out)) (fun hHeld5 => ?_)
            clear hK K hHeld4
            clear hfx4
            generalize (wx3.setRow pA (rval m a1 k1)) = wx4 at *
            change wpAnyH _ _ _ _ _ 1 #[true, true, true, true, true, true, true, false] _ _
            refine wpAnyH_ready (rs := [7]) (by kernel_rfl) (by simp) ?_
            refine AllReadyH.cons rfl (fun K hK => ?_) AllReadyH.nil
            simp only [zA, zB, zC]
            refine (if_pos (by kernel_rfl)).mpr ?_
            refine wp_store_row 24 _ _ rfl pB (rval m a2 k2) rfl rfl 24 RZ HZ1.out (HIR.out _ _ _) rfl (HRO.out _ _ _) ?_
            have hfx5 := Fr.row1 wx4 pB (rval m a2 k2)
            replace HO0 := Lib.hid (RV.pastR HO0.out hfx5 HZ1.out)
            replace HZ0 := Lib.hid ((show Bk (wx4.setRow pB (rval m a2 k2)) pA (rval m a1 k1) 24 from ArrKit.Bk.rowOther HZ0.out _ (HPQ.out)))
            replace HO1 := Lib.hid (RV.pastR HO1.out hfx5 HZ1.out)
            have HX1' : Hid (Bk (wx4.setRow pB (rval m a2 k2)) pB (rval m a2 k2) 24) := Lib.hid (ArrKit.Bk.row HZ1.out _)
            clear HZ1
            have HZ1 := HX1'
            clear HX1'
            refine hK.out _ _ (ArrKit.Fr.row hHeld5 _ _ (.inl HLO1.out)) (fun hHeld6 => ?_)
            clear hK K hHeld5
            clear hfx5
            generalize (wx4.setRow pB (rval m a2 k2)) = wx5 at *
            change wpAnyH _ _ _ _ _ 0 #[true, true, true, true, true, true, true, true] _ _
            refine wpAnyH_done (by kernel_rfl) ?_ _
            refine NoPanic.normal ?_
            have HEND := Lib.hid hHeld6
            clear hHeld6
            exact HREST2.out wx5 pA pB a1 k1 a2 k2 HEND.out ⟨a1, k1, HZ0.out, HO0.out⟩ ⟨a2, k2, HZ1.out, HO1.out⟩ HPQ.out HLO0.out HLO1.out
        · simp only [zA, zB, zC]
          refine (if_pos (by kernel_rfl)).mpr ?_
          go_wp2_with fail
          have hfx1 : Fr (fun _ => False) wx0 (wx0.alloc (.cells RZ 24)) := Fr.alloc (Fr.refl _ _) _
          have HLO1 : Hid (wE.heap.size ≤ wx0.heap.size) := Lib.hid (Fr.size hHeld1)
          replace HO0 := Lib.hid (RV.keep HO0.out hfx1)
          have HZ1 : Hid (Bk (wx0.alloc (.cells RZ 24)) wx0.heap.size RZ 24) := Lib.hid (Bk.new wx0 _)
          have HB1 : Hid (wx0.heap.size < (wx0.alloc (.cells RZ 24)).heap.size) := Lib.hid (Bk.lt HZ1.out)
          refine hK.out _ _ (hHeld1.then0 hfx1) (fun hHeld2 => ?_)
          clear hK K hHeld1
          clear hfx1
          generalize wx0.heap.size = pB at *
          generalize (wx0.alloc (.cells RZ 24)) = wx1 at *
          change wpAnyH _ _ _ _ _ 4 #[true, true, true, false, false, true, false, false] _ _
          refine wpAnyH_ready (rs := [3, 4]) (by kernel_rfl) (by simp) ?_
          refine AllReadyH.cons rfl (fun K hK => ?_) (AllReadyH.cons rfl (fun K hK => ?_) (AllReadyH.nil))
          · simp only [zA, zB, zC]
            refine (if_pos (by kernel_rfl)).mpr ?_
            go_wp2_with fail
            refine (HRC.out _ (HF3.out.then0 hHeld2)).mono ?_
            rintro e wx2 ⟨a2, k2, rfl, hown1, hfx2⟩
            dsimp only
            replace HO0 := Lib.hid (RV.keep HO0.out hfx2)
            replace HZ1 := Lib.hid (hfx2.keep HZ1.out (fun h => h))
            have HO1 := Lib.hid hown1
            clear hown1
            replace HB1 : Hid (pB < wx2.heap.size) := Lib.hid (Bk.lt HZ1.out)
            refine hK.out _ _ (hHeld2.then0 hfx2) (fun hHeld3 => ?_)
            clear hK K hHeld2
            clear hfx2
            change wpAnyH _ _ _ _ _ 3 #[true, true, true, true, false, true, false, false] _ _
            refine wpAnyH_ready (rs := [4]) (by kernel_rfl) (by simp) ?_
            refine AllReadyH.cons rfl (fun K hK => ?_) AllReadyH.nil
            simp only [zA, zB, zC]
            refine (if_pos (by kernel_rfl)).mpr ?_
            go_wp2_with fail
            have hfx3 : Fr (fun _ => False) wx2 (wx2.alloc (.cells RZ 24)) := Fr.alloc (Fr.refl _ _) _
            have HLO0 : Hid (wE.heap.size ≤ wx2.heap.size) := Lib.hid (Fr.size hHeld3)
            have HPQ : Hid (wx2.heap.size ≠ pB) := Lib.hid (by have h1 := Bk.lt HZ1.out; omega)
            replace HO0 := Lib.hid (RV.keep HO0.out hfx3)
            replace HZ1 := Lib.hid (hfx3.keep HZ1.out (fun h => h))
            replace HO1 := Lib.hid (RV.keep HO1.out hfx3)
            have HZ0 : Hid (Bk (wx2.alloc (.cells RZ 24)) wx2.heap.size RZ 24) := Lib.hid (Bk.new wx2 _)
            have HB0 : Hid (wx2.heap.size < (wx2.alloc (.cells RZ 24)).heap.size) := Lib.hid (Bk.lt HZ0.out)
            replace HB1 : Hid (pB < (wx2.alloc (.cells RZ 24)).heap.size) := Lib.hid (Bk.lt HZ1.out)
            refine hK.out _ _ (hHeld3.then0 hfx3) (fun hHeld4 => ?_)
            clear hK K hHeld3
            clear hfx3
            generalize wx2.heap.size = pA at *
            generalize (wx2.alloc (.cells RZ 24)) = wx3 at *
            change wpAnyH _ _ _ _ _ 2 #[true, true, true, true, true, true, false, false] _ _
            refine wpAnyH_ready (rs := [6]) (by kernel_rfl) (by simp) ?_
            refine AllReadyH.cons rfl (fun K hK => ?_) AllReadyH.nil
            simp only [zA, zB, zC]
            refine (if_pos (by kernel_rfl)).mpr ?_
            refine wp_store_row 24 _ _ rfl pA (rval m a1 k1) rfl rfl 24 RZ HZ0.out (HIR.out _ _ _) rfl (HRO.out _ _ _) ?_
            have hfx4 := Fr.row1 wx3 pA (rval m a1 k1)
            replace HO0 := Lib.hid (RV.pastR HO0.out hfx4 HZ0.out)
            replace HZ1 := Lib.hid ((show Bk (wx3.setRow pA (rval m a1 k1)) pB RZ 24 from ArrKit.Bk.rowOther HZ1.out _ (HPQ.out.symm)))
            replace HO1 := Lib.hid (RV.pastR HO1.out hfx4 HZ0.out)
            have HX0' : Hid (Bk (wx3.setRow pA (rval m a1 k1)) pA (rval m a1 k1) 24) := Lib.hid (ArrKit.Bk.row HZ0.out _)
            clear HZ0
            have HZ0 := HX0'
            clear HX0'
            refine hK.out _ _ (ArrKit.Fr.row hHeld4 _ _ (.inl HLO0.out)) (fun hHeld5 => ?_)
            clear hK K hHeld4
            clear hfx4
            generalize (wx3.setRow pA (rval m a1 k1)) = wx4 at *
            change wpAnyH _ _ _ _ _ 1 #[true, true, true, true, true, true, true, false] _ _
            refine wpAnyH_ready (rs := [7]) (by kernel_rfl) (by simp) ?_
            refine AllReadyH.cons rfl (fun K hK => ?_) AllReadyH.nil
            simp only [zA, zB, zC]
            refine (if_pos (by kernel_rfl)).mpr ?_
            refine wp_store_row 24 _ _ rfl pB (rval m a2 k2) rfl rfl 24 RZ HZ1.out (HIR.out _ _ _) rfl (HRO.out _ _ _) ?_
            have hfx5 := Fr.row1 wx4 pB (rval m a2 k2)
            replace HO0 := Lib.hid (RV.pastR HO0.out hfx5 HZ1.out)
            replace HO1 := Lib.hid (RV.pastR HO1.out hfx5 HZ1.out)
            replace HZ0 := Lib.hid ((show Bk (wx4.setRow pB (rval m a2 k2)) pA (rval m a1 k1) 24 from ArrKit.Bk.rowOther HZ0.out _ (HPQ.out)))
            have HX1' : Hid (Bk (wx4.setRow pB (rval m a2 k2)) pB (rval m a2 k2) 24) := Lib.hid (ArrKit.Bk.row HZ1.out _)
            clear HZ1
            have HZ1 := HX1'
            clear HX1'
            refine hK.out _ _ (ArrKit.Fr.row hHeld5 _ _ (.inl HLO1.out)) (fun hHeld6 => ?_)
            clear hK K hHeld5
            clear hfx5
            generalize (wx4.setRow pB (rval m a2 k2)) = wx5 at *
            change wpAnyH _ _ _ _ _ 0 #[true, true, true, true, true, true, true, true] _ _
            refine wpAnyH_done (by kernel_rfl) ?_ _
            refine NoPanic.normal ?_
            have HEND := Lib.hid hHeld6
            clear hHeld6
            exact HREST2.out wx5 pA pB a1 k1 a2 k2 HEND.out ⟨a1, k1, HZ0.out, HO0.out⟩ ⟨a2, k2, HZ1.out, HO1.out⟩ HPQ.out HLO0.out HLO1.out
          · simp only [zA, zB, zC]
            refine (if_pos (by kernel_rfl)).mpr ?_
            go_wp2_with fail
            have hfx2 : Fr (fun _ => False) wx1 (wx1.alloc (.cells RZ 24)) := Fr.alloc (Fr.refl _ _) _
            have HLO0 : Hid (wE.heap.size ≤ wx1.heap.size) := Lib.hid (Fr.size hHeld2)
            have HPQ : Hid (wx1.heap.size ≠ pB) := Lib.hid (by have h1 := Bk.lt HZ1.out; omega)
            replace HO0 := Lib.hid (RV.keep HO0.out hfx2)
            replace HZ1 := Lib.hid (hfx2.keep HZ1.out (fun h => h))
            have HZ0 : Hid (Bk (wx1.alloc (.cells RZ 24)) wx1.heap.size RZ 24) := Lib.hid (Bk.new wx1 _)
            have HB0 : Hid (wx1.heap.size < (wx1.alloc (.cells RZ 24)).heap.size) := Lib.hid (Bk.lt HZ0.out)
            replace HB1 : Hid (pB < (wx1.alloc (.cells RZ 24)).heap.size) := Lib.hid (Bk.lt HZ1.out)
            refine hK.out _ _ (hHeld2.then0 hfx2) (fun hHeld3 => ?_)
            clear hK K hHeld2
            clear hfx2
            generalize wx1.heap.size = pA at *
            generalize (wx1.alloc (.cells RZ 24)) = wx2 at *
            change wpAnyH _ _ _ _ _ 3 #[true, true, true, false, true, true, false, false] _ _
            refine wpAnyH_ready (rs := [3]) (by kernel_rfl) (by simp) ?_
            refine AllReadyH.cons rfl (fun K hK => ?_) AllReadyH.nil
            simp only [zA, zB, zC]
            refine (if_pos (by kernel_rfl)).mpr ?_
            go_wp2_with fail
            refine (HRC.out _ (HF3.out.then0 hHeld3)).mono ?_
            rintro e wx3 ⟨a2, k2, rfl, hown1, hfx3⟩
            dsimp only
            replace HO0 := Lib.hid (RV.keep HO0.out hfx3)
            replace HZ1 := Lib.hid (hfx3.keep HZ1.out (fun h => h))
            replace HZ0 := Lib.hid (hfx3.keep HZ0.out (fun h => h))
            have HO1 := Lib.hid hown1
            clear hown1
            replace HB0 : Hid (pA < wx3.heap.size) := Lib.hid (Bk.lt HZ0.out)
            replace HB1 : Hid (pB < wx3.heap.size) := Lib.hid (Bk.lt HZ1.out)
            refine hK.out _ _ (hHeld3.then0 hfx3) (fun hHeld4 => ?_)
            clear hK K hHeld3
            clear hfx3
            change wpAnyH _ _ _ _ _ 2 #[true, true, true, true, true, true, false, false] _ _
            refine wpAnyH_ready (rs := [6]) (by kernel_rfl) (by simp) ?_
            refine AllReadyH.cons rfl (fun K hK => ?_) AllReadyH.nil
            simp only [zA, zB, zC]
            refine (if_pos (by kernel_rfl)).mpr ?_
            refine wp_store_row 24 _ _ rfl pA (rval m a1 k1) rfl rfl 24 RZ HZ0.out (HIR.out _ _ _) rfl (HRO.out _ _ _) ?_
            have hfx4 := Fr.row1 wx3 pA (rval m a1 k1)
            replace HO0 := Lib.hid (RV.pastR HO0.out hfx4 HZ0.out)
            replace HZ1 := Lib.hid ((show Bk (wx3.setRow pA (rval m a1 k1)) pB RZ 24 from ArrKit.Bk.rowOther HZ1.out _ (HPQ.out.symm)))
            replace HO1 := Lib.hid (RV.pastR HO1.out hfx4 HZ0.out)
            have HX0' : Hid (Bk (wx3.setRow pA (rval m a1 k1)) pA (rval m a1 k1) 24) := Lib.hid (ArrKit.Bk.row HZ0.out _)
            clear HZ0
            have HZ0 := HX0'
            clear HX0'
            refine hK.out _ _ (ArrKit.Fr.row hHeld4 _ _ (.inl HLO0.out)) (fun hHeld5 => ?_)
            clear hK K hHeld4
            clear hfx4
            generalize (wx3.setRow pA (rval m a1 k1)) = wx4 at *
            change wpAnyH _ _ _ _ _ 1 #[true, true, true, true, true, true, true, false] _ _
            refine wpAnyH_ready (rs := [7]) (by kernel_rfl) (by simp) ?_
            refine AllReadyH.cons rfl (fun K hK => ?_) AllReadyH.nil
            simp only [zA, zB, zC]
            refine (if_pos (by kernel_rfl)).mpr ?_
            refine wp_store_row 24 _ _ rfl pB (rval m a2 k2) rfl rfl 24 RZ HZ1.out (HIR.out _ _ _) rfl (HRO.out _ _ _) ?_
            have hfx5 := Fr.row1 wx4 pB (rval m a2 k2)
            replace HO0 := Lib.hid (RV.pastR HO0.out hfx5 HZ1.out)
            replace HZ0 := Lib.hid ((show Bk (wx4.setRow pB (rval m a2 k2)) pA (rval m a1 k1) 24 from ArrKit.Bk.rowOther HZ0.out _ (HPQ.out)))
            replace HO1 := Lib.hid (RV.pastR HO1.out hfx5 HZ1.out)
            have HX1' : Hid (Bk (wx4.setRow pB (rval m a2 k2)) pB (rval m a2 k2) 24) := Lib.hid (ArrKit.Bk.row HZ1.out _)
            clear HZ1
            have HZ1 := HX1'
            clear HX1'
            refine hK.out _ _ (ArrKit.Fr.row hHeld5 _ _ (.inl HLO1.out)) (fun hHeld6 => ?_)
            clear hK K hHeld5
            clear hfx5
            generalize (wx4.setRow pB (rval m a2 k2)) = wx5 at *
            change wpAnyH _ _ _ _ _ 0 #[true, true, true, true, true, true, true, true] _ _
            refine wpAnyH_done (by kernel_rfl) ?_ _
            refine NoPanic.normal ?_
            have HEND := Lib.hid hHeld6
            clear hHeld6
            exact HREST2.out wx5 pA pB a1 k1 a2 k2 HEND.out ⟨a1, k1, HZ0.out, HO0.out⟩ ⟨a2, k2, HZ1.out, HO1.out⟩ HPQ.out HLO0.out HLO1.out
      · simp only [zA, zB, zC]
        refine (if_pos (by kernel_rfl)).mpr ?_
        go_wp2_with fail
        have hfx0 : Fr (fun _ => False) wd (wd.alloc (.cells RZ 24)) := Fr.alloc (Fr.refl _ _) _
        have HLO0 : Hid (wE.heap.size ≤ wd.heap.size) := Lib.hid (Fr.size hHeld0)
        have HZ0 : Hid (Bk (wd.alloc (.cells RZ 24)) wd.heap.size RZ 24) := Lib.hid (Bk.new wd _)
        have HB0 : Hid (wd.heap.size < (wd.alloc (.cells RZ 24)).heap.size) := Lib.hid (Bk.lt HZ0.out)
        refine hK.out _ _ (hHeld0.then0 hfx0) (fun hHeld1 => ?_)
        clear hK K hHeld0
        clear hfx0
        generalize wd.heap.size = pA at *
        generalize (wd.alloc (.cells RZ 24)) = wx0 at *
        change wpAnyH _ _ _ _ _ 5 #[true, false, true, false, true, false, false, false] _ _
        refine wpAnyH_ready (rs := [1, 5]) (by kernel_rfl) (by simp) ?_
        refine AllReadyH.cons rfl (fun K hK => ?_) (AllReadyH.cons rfl (fun K hK => ?_) (AllReadyH.nil))
        · simp only [zA, zB, zC]
          refine (if_pos (by kernel_rfl)).mpr ?_
          go_wp2_with fail
          refine (HRC.out _ (HF3.out.then0 hHeld1)).mono ?_
          rintro e wx1 ⟨a1, k1, rfl, hown0, hfx1⟩
          dsimp only
          replace HZ0 := Lib.hid (hfx1.keep HZ0.out (fun h => h))
          have HO0 := Lib.hid hown0
          clear hown0
          replace HB0 : Hid (pA < wx1.heap.size) := Lib.hid (Bk.lt HZ0.out)
          refine hK.out _ _ (hHeld1.then0 hfx1) (fun hHeld2 => ?_)
          clear hK K hHeld1
          clear hfx1
          change wpAnyH _ _ _ _ _ 4 #[true, true, true, false, true, false, false, false] _ _
          refine wpAnyH_ready (rs := [3, 5]) (by kernel_rfl) (by simp) ?_
          refine AllReadyH.cons rfl (fun K hK => ?_) (AllReadyH.cons rfl (fun K hK => ?_) (AllReadyH.nil))
          · simp only [zA, zB, zC]
            refine (if_pos (by kernel_rfl)).mpr ?_
            go_wp2_with fail
            refine (HRC.out _ (HF3.out.then0 hHeld2)).mono ?_
            rintro e wx2 ⟨a2, k2, rfl, hown1, hfx2⟩
            dsimp only
            replace HZ0 := Lib.hid (hfx2.keep HZ0.out (fun h => h))
            replace HO0 := Lib.hid (RV.keep HO0.out hfx2)
            have HO1 := Lib.hid hown1
            clear hown1
            replace HB0 : Hid (pA < wx2.heap.size) := Lib.hid (Bk.lt HZ0.out)
            refine hK.out _ _ (hHeld2.then0 hfx2) (fun hHeld3 => ?_)
            clear hK K hHeld2
            clear hfx2
            change wpAnyH _ _ _ _ _ 3 #[true, true, true, true, true, false, false, false] _ _
            refine wpAnyH_ready (rs := [5]) (by kernel_rfl) (by simp) ?_
            refine AllReadyH.cons rfl (fun K hK => ?_) AllReadyH.nil
            simp only [zA, zB, zC]
            refine (if_pos (by kernel_rfl)).mpr ?_
            go_wp2_with fail
            have hfx3 : Fr (fun _ => False) wx2 (wx2.alloc (.cells RZ 24)) := Fr.alloc (Fr.refl _ _) _
            have HLO1 : Hid (wE.heap.size ≤ wx2.heap.size) := Lib.hid (Fr.size hHeld3)
            have HPQ : Hid (pA ≠ wx2.heap.size) := Lib.hid (by have h1 := Bk.lt HZ0.out; omega)
            replace HZ0 := Lib.hid (hfx3.keep HZ0.out (fun h => h))
            replace HO0 := Lib.hid (RV.keep HO0.out hfx3)
            replace HO1 := Lib.hid (RV.keep HO1.out hfx3)
            have HZ1 : Hid (Bk (wx2.alloc (.cells RZ 24)) wx2.heap.size RZ 24) := Lib.hid (Bk.new wx2 _)
            have HB1 : Hid (wx2.heap.size < (wx2.alloc (.cells RZ 24)).heap.size) := Lib.hid (Bk.lt HZ1.out)
            replace HB0 : Hid (pA < (wx2.alloc (.cells RZ 24)).heap.size) := Lib.hid (Bk.lt HZ0.out)
            refine hK.out _ _ (hHeld3.then0 hfx3) (fun hHeld4 => ?_)
            clear hK K hHeld3
            clear hfx3
            generalize wx2.heap.size = pB at *
            generalize (wx2.alloc (.cells RZ 24)) = wx3 at *
            change wpAnyH _ _ _ _ _ 2 #[true, true, true, true, true, true, false, false] _ _
            refine wpAnyH_ready (rs := [6]) (by kernel_rfl) (by simp) ?_
            refine AllReadyH.cons rfl (fun K hK => ?_) AllReadyH.nil
            simp only [zA, zB, zC]
            refine (if_pos (by kernel_rfl)).mpr ?_
            refine wp_store_row 24 _ _ rfl pA (rval m a1 k1) rfl rfl 24 RZ HZ0.out (HIR.out _ _ _) rfl (HRO.out _ _ _) ?_
            have hfx4 := Fr.row1 wx3 pA (rval m a1 k1)
            replace HO0 := Lib.hid (RV.pastR HO0.out hfx4 HZ0.out)
            replace HO1 := Lib.hid (RV.pastR HO1.out hfx4 HZ0.out)
            replace HZ1 := Lib.hid ((show Bk (wx3.setRow pA (rval m a1 k1)) pB RZ 24 from ArrKit.Bk.rowOther HZ1.out _ (HPQ.out.symm)))
            have HX0' : Hid (Bk (wx3.setRow pA (rval m a1 k1)) pA (rval m a1 k1) 24) := Lib.hid (ArrKit.Bk.row HZ0.out _)
            clear HZ0
            have HZ0 := HX0'
            clear HX0'
            refine hK.out _ _ (ArrKit.Fr.row hHeld4 _ _ (.inl HLO0.out)) (fun hHeld5 => ?_)
            clear hK K hHeld4
            clear hfx4
            generalize (wx3.setRow pA (rval m a1 k1)) = wx4 at *
            change wpAnyH _ _ _ _ _ 1 #[true, true, true, true, true, true, true, false] _ _
            refine wpAnyH_ready (rs := [7]) (by kernel_rfl) (by simp) ?_
            refine AllReadyH.cons rfl (fun K hK => ?_) AllReadyH.nil
            simp only [zA, zB, zC]
            refine (if_pos (by kernel_rfl)).mpr ?_
            refine wp_store_row 24 _ _ rfl pB (rval m a2 k2) rfl rfl 24 RZ HZ1.out (HIR.out _ _ _) rfl (HRO.out _ _ _) ?_
            have hfx5 := Fr.row1 wx4 pB (rval m a2 k2)
            replace HZ0 := Lib.hid ((show Bk (wx4.setRow pB (rval m a2 k2)) pA (rval m a1 k1) 24 from ArrKit.Bk.rowOther HZ0.out _ (HPQ.out)))
            replace HO0 := Lib.hid (RV.pastR HO0.out hfx5 HZ1.out)
            replace HO1 := Lib.hid (RV.pastR HO1.out hfx5 HZ1.out)
            have HX1' : Hid (Bk (wx4.setRow pB (rval m a2 k2)) pB (rval m a2 k2) 24) := Lib.hid (ArrKit.Bk.row HZ1.out _)
            clear HZ1
            have HZ1 := HX1'
            clear HX1'
            refine hK.out _ _ (ArrKit.Fr.row hHeld5 _ _ (.inl HLO1.out)) (fun hHeld6 => ?_)
            clear hK K hHeld5
            clear hfx5
            generalize (wx4.setRow pB (rval m a2 k2)) = wx5 at *
            change wpAnyH _ _ _ _ _ 0 #[true, true, true, true, true, true, true, true] _ _
            refine wpAnyH_done (by kernel_rfl) ?_ _
            refine NoPanic.normal ?_
            have HEND := Lib.hid hHeld6
            clear hHeld6
            exact HREST2.out wx5 pA pB a1 k1 a2 k2 HEND.out ⟨a1, k1, HZ0.out, HO0.out⟩ ⟨a2, k2, HZ1.out, HO1.out⟩ HPQ.out HLO0.out HLO1.out
          · simp only [zA, zB, zC]
            refine (if_pos (by kernel_rfl)).mpr ?_
            go_wp2_with fail
            have hfx2 : Fr (fun _ => False) wx1 (wx1.alloc (.cells RZ 24)) := Fr.alloc (Fr.refl _ _) _
            have HLO1 : Hid (wE.heap.size ≤ wx1.heap.size) := Lib.hid (Fr.size hHeld2)
            have HPQ : Hid (pA ≠ wx1.heap.size) := Lib.hid (by have h1 := Bk.lt HZ0.out; omega)
            replace HZ0 := Lib.hid (hfx2.keep HZ0.out (fun h => h))
            replace HO0 := Lib.hid (RV.keep HO0.out hfx2)
            have HZ1 : Hid (Bk (wx1.alloc (.cells RZ 24)) wx1.heap.size RZ 24) := Lib.hid (Bk.new wx1 _)
            have HB1 : Hid (wx1.heap.size < (wx1.alloc (.cells RZ 24)).heap.size) := Lib.hid (Bk.lt HZ1.out)
            replace HB0 : Hid (pA < (wx1.alloc (.cells RZ 24)).heap.size) := Lib.hid (Bk.lt HZ0.out)
            refine hK.out _ _ (hHeld2.then0 hfx2) (fun hHeld3 => ?_)
            clear hK K hHeld2
            clear hfx2
            generalize wx1.heap.size = pB at *
            generalize (wx1.alloc (.cells RZ 24)) = wx2 at *
            change wpAnyH _ _ _ _ _ 3 #[true, true, true, false, true, true, false, false] _ _
            refine wpAnyH_ready (rs := [3]) (by kernel_rfl) (by simp) ?_
            refine AllReadyH.cons rfl (fun K hK => ?_) AllReadyH.nil
            simp only [zA, zB, zC]
            refine (if_pos (by kernel_rfl)).mpr ?_
            go_wp2_with fail
            refine (HRC.out _ (HF3.out.then0 hHeld3)).mono ?_
            rintro e wx3 ⟨a2, k2, rfl, hown1, hfx3⟩
            dsimp only
            replace HZ0 := Lib.hid (hfx3.keep HZ0.out (fun h => h))
            replace HO0 := Lib.hid (RV.keep HO0.out hfx3)
            replace HZ1 := Lib.hid (hfx3.keep HZ1.out (fun h => h))
            have HO1 := Lib.hid hown1
            clear hown1
            replace HB0 : Hid (pA < wx3.heap.size) := Lib.hid (Bk.lt HZ0.out)
            replace HB1 : Hid (pB < wx3.heap.size) := Lib.hid (Bk.lt HZ1.out)
            refine hK.out _ _ (hHeld3.then0 hfx3) (fun hHeld4 => ?_)
            clear hK K hHeld3
            clear hfx3
            change wpAnyH _ _ _ _ _ 2 #[true, true, true, true, true, true, false, false] _ _
            refine wpAnyH_ready (rs := [6]) (by kernel_rfl) (by simp) ?_
            refine AllReadyH.cons rfl (fun K hK => ?_) AllReadyH.nil
            simp only [zA, zB, zC]
            refine (if_pos (by kernel_rfl)).mpr ?_
            refine wp_store_row 24 _ _ rfl pA (rval m a1 k1) rfl rfl 24 RZ HZ0.out (HIR.out _ _ _) rfl (HRO.out _ _ _) ?_
            have hfx4 := Fr.row1 wx3 pA (rval m a1 k1)
            replace HO0 := Lib.hid (RV.pastR HO0.out hfx4 HZ0.out)
            replace HZ1 := Lib.hid ((show Bk (wx3.setRow pA (rval m a1 k1)) pB RZ 24 from ArrKit.Bk.rowOther HZ1.out _ (HPQ.out.symm)))
            replace HO1 := Lib.hid (RV.pastR HO1.out hfx4 HZ0.out)
            have HX0' : Hid (Bk (wx3.setRow pA (rval m a1 k1)) pA (rval m a1 k1) 24) := Lib.hid (ArrKit.Bk.row HZ0.out _)
            clear HZ0
            have HZ0 := HX0'
            clear HX0'
            refine hK.out _ _ (ArrKit.Fr.row hHeld4 _ _ (.inl HLO0.out)) (fun hHeld5 => ?_)
            clear hK K hHeld4
            clear hfx4
            generalize (wx3.setRow pA (rval m a1 k1)) = wx4 at *
            change wpAnyH _ _ _ _ _ 1 #[true, true, true, true, true, true, true, false] _ _
            refine wpAnyH_ready (rs := [7]) (by kernel_rfl) (by simp) ?_
            refine AllReadyH.cons rfl (fun K hK => ?_) AllReadyH.nil
            simp only [zA, zB, zC]
            refine (if_pos (by kernel_rfl)).mpr ?_
            refine wp_store_row 24 _ _ rfl pB (rval m a2 k2) rfl rfl 24 RZ HZ1.out (HIR.out _ _ _) rfl (HRO.out _ _ _) ?_
            have hfx5 := Fr.row1 wx4 pB (rval m a2 k2)
            replace HZ0 := Lib.hid ((show Bk (wx4.setRow pB (rval m a2 k2)) pA (rval m a1 k1) 24 from ArrKit.Bk.rowOther HZ0.out _ (HPQ.out)))
            replace HO0 := Lib.hid (RV.pastR HO0.out hfx5 HZ1.out)
            replace HO1 := Lib.hid (RV.pastR HO1.out hfx5 HZ1.out)
            have HX1' : Hid (Bk (wx4.setRow pB (rval m a2 k2)) pB (rval m a2 k2) 24) := Lib.hid (ArrKit.Bk.row HZ1.out _)
            clear HZ1
            have HZ1 := HX1'
            clear HX1'
            refine hK.out _ _ (ArrKit.Fr.row hHeld5 _ _ (.inl HLO1.out)) (fun hHeld6 => ?_)
            clear hK K hHeld5
            clear hfx5
            generalize (wx4.setRow pB (rval m a2 k2)) = wx5 at *
            change wpAnyH _ _ _ _ _ 0 #[true, true, true, true, true, true, true, true] _ _
            refine wpAnyH_done (by kernel_rfl) ?_ _
            refine NoPanic.normal ?_
            have HEND := Lib.hid hHeld6
            clear hHeld6
            exact HREST2.out wx5 pA pB a1 k1 a2 k2 HEND.out ⟨a1, k1, HZ0.out, HO0.out⟩ ⟨a2, k2, HZ1.out, HO1.out⟩ HPQ.out HLO0.out HLO1.out
        · simp only [zA, zB, zC]
          refine (if_pos (by kernel_rfl)).mpr ?_
          go_wp2_with fail
          have hfx1 : Fr (fun _ => False) wx0 (wx0.alloc (.cells RZ 24)) := Fr.alloc (Fr.refl _ _) _
          have HLO1 : Hid (wE.heap.size ≤ wx0.heap.size) := Lib.hid (Fr.size hHeld1)
          have HPQ : Hid (pA ≠ wx0.heap.size) := Lib.hid (by have h1 := Bk.lt HZ0.out; omega)
          replace HZ0 := Lib.hid (hfx1.keep HZ0.out (fun h => h))
          have HZ1 : Hid (Bk (wx0.alloc (.cells RZ 24)) wx0.heap.size RZ 24) := Lib.hid (Bk.new wx0 _)
          have HB1 : Hid (wx0.heap.size < (wx0.alloc (.cells RZ 24)).heap.size) := Lib.hid (Bk.lt HZ1.out)
          replace HB0 : Hid (pA < (wx0.alloc (.cells RZ 24)).heap.size) := Lib.hid (Bk.lt HZ0.out)
          refine hK.out _ _ (hHeld1.then0 hfx1) (fun hHeld2 => ?_)
          clear hK K hHeld1
          clear hfx1
          generalize wx0.heap.size = pB at *
          generalize (wx0.alloc (.cells RZ 24)) = wx1 at *
          change wpAnyH _ _ _ _ _ 4 #[true, false, true, false, true, true, false, false] _ _
          refine wpAnyH_ready (rs := [1]) (by kernel_rfl) (by simp) ?_
          refine AllReadyH.cons rfl (fun K hK => ?_) AllReadyH.nil
          simp only [zA, zB, zC]
          refine (if_pos (by kernel_rfl)).mpr ?_
          go_wp2_with fail
          refine (HRC.out _ (HF3.out.then0 hHeld2)).mono ?_
          rintro e wx2 ⟨a1, k1, rfl, hown0, hfx2⟩
          dsimp only
          replace HZ0 := Lib.hid (hfx2.keep HZ0.out (fun h => h))
          replace HZ1 := Lib.hid (hfx2.keep HZ1.out (fun h => h))
          have HO0 := Lib.hid hown0
          clear hown0
          replace HB0 : Hid (pA < wx2.heap.size) := Lib.hid (Bk.lt HZ0.out)
          replace HB1 : Hid (pB < wx2.heap.size) := Lib.hid (Bk.lt HZ1.out)
          refine hK.out _ _ (hHeld2.then0 hfx2) (fun hHeld3 => ?_)
          clear hK K hHeld2
          clear hfx2
          change wpAnyH _ _ _ _ _ 3 #[true, true, true, false, true, true, false, false] _ _
          refine wpAnyH_ready (rs := [3]) (by kernel_rfl) (by simp) ?_
          refine AllReadyH.cons rfl (fun K hK => ?_) AllReadyH.nil
          simp only [zA, zB, zC]
          refine (if_pos (by kernel_rfl)).mpr ?_
          go_wp2_with fail
          refine (HRC.out _ (HF3.out.then0 hHeld3)).mono ?_
          rintro e wx3 ⟨a2, k2, rfl, hown1, hfx3⟩
          dsimp only
          replace HZ0 := Lib.hid (hfx3.keep HZ0.out (fun h => h))
          replace HZ1 := Lib.hid (hfx3.keep HZ1.out (fun h => h))
          replace HO0 := Lib.hid (RV.keep HO0.out hfx3)
          have HO1 := Lib.hid hown1
          clear hown1
          replace HB0 : Hid (pA < wx3.heap.size) := Lib.hid (Bk.lt HZ0.out)
          replace HB1 : Hid (pB < wx3.heap.size) := Lib.hid (Bk.lt HZ1.out)
          refine hK.out _ _ (hHeld3.then0 hfx3) (fun hHeld4 => ?_)
          clear hK K hHeld3
          clear hfx3
          change wpAnyH _ _ _ _ _ 2 #[true, true, true, true, true, true, false, false] _ _
          refine wpAnyH_ready (rs := [6]) (by kernel_rfl) (by simp) ?_
          refine AllReadyH.cons rfl (fun K hK => ?_) AllReadyH.nil
          simp only [zA, zB, zC]
          refine (if_pos (by kernel_rfl)).mpr ?_
          refine wp_store_row 24 _ _ rfl pA (rval m a1 k1) rfl rfl 24 RZ HZ0.out (HIR.out _ _ _) rfl (HRO.out _ _ _) ?_
          have hfx4 := Fr.row1 wx3 pA (rval m a1 k1)
          replace HZ1 := Lib.hid ((show Bk (wx3.setRow pA (rval m a1 k1)) pB RZ 24 from ArrKit.Bk.rowOther HZ1.out _ (HPQ.out.symm)))
          replace HO0 := Lib.hid (RV.pastR HO0.out hfx4 HZ0.out)
          replace HO1 := Lib.hid (RV.pastR HO1.out hfx4 HZ0.out)
          have HX0' : Hid (Bk (wx3.setRow pA (rval m a1 k1)) pA (rval m a1 k1) 24) := Lib.hid (ArrKit.Bk.row HZ0.out _)
          clear HZ0
          have HZ0 := HX0'
          clear HX0'
          refine hK.out _ _ (ArrKit.Fr.row hHeld4 _ _ (.inl HLO0.out)) (fun hHeld5 => ?_)
          clear hK K hHeld4
          clear hfx4
          generalize (wx3.setRow pA (rval m a1 k1)) = wx4 at *
          change wpAnyH _ _ _ _ _ 1 #[true, true, true, true, true, true, true, false] _ _
          refine wpAnyH_ready (rs := [7]) (by kernel_rfl) (by simp) ?_
          refine AllReadyH.cons rfl (fun K hK => ?_) AllReadyH.nil
          simp only [zA, zB, zC]
          refine (if_pos (by kernel_rfl)).mpr ?_
          refine wp_store_row 24 _ _ rfl pB (rval m a2 k2) rfl rfl 24 RZ HZ1.out (HIR.out _ _ _) rfl (HRO.out _ _ _) ?_
          have hfx5 := Fr.row1 wx4 pB (rval m a2 k2)
          replace HZ0 := Lib.hid ((show Bk (wx4.setRow pB (rval m a2 k2)) pA (rval m a1 k1) 24 from ArrKit.Bk.rowOther HZ0.out _ (HPQ.out)))
          replace HO0 := Lib.hid (RV.pastR HO0.out hfx5 HZ1.out)
          replace HO1 := Lib.hid (RV.pastR HO1.out hfx5 HZ1.out)
          have HX1' : Hid (Bk (wx4.setRow pB (rval m a2 k2)) pB (rval m a2 k2) 24) := Lib.hid (ArrKit.Bk.row HZ1.out _)
          clear HZ1
          have HZ1 := HX1'
          clear HX1'
          refine hK.out _ _ (ArrKit.Fr.row hHeld5 _ _ (.inl HLO1.out)) (fun hHeld6 => ?_)
          clear hK K hHeld5
          clear hfx5
          generalize (wx4.setRow pB (rval m a2 k2)) = wx5 at *
          change wpAnyH _ _ _ _ _ 0 #[true, true, true, true, true, true, true, true] _ _
          refine wpAnyH_done (by kernel_rfl) ?_ _
          refine NoPanic.normal ?_
          have HEND := Lib.hid hHeld6
          clear hHeld6
          exact HREST2.out wx5 pA pB a1 k1 a2 k2 HEND.out ⟨a1, k1, HZ0.out, HO0.out⟩ ⟨a2, k2, HZ1.out, HO1.out⟩ HPQ.out HLO0.out HLO1.out
      · simp only [zA, zB, zC]
        refine (if_pos (by kernel_rfl)).mpr ?_
        go_wp2_with fail
        have hfx0 : Fr (fun _ => False) wd (wd.alloc (.cells RZ 24)) := Fr.alloc (Fr.refl _ _) _
        have HLO1 : Hid (wE.heap.size ≤ wd.heap.size) := Lib.hid (Fr.size hHeld0)
        have HZ1 : Hid (Bk (wd.alloc (.cells RZ 24)) wd.heap.size RZ 24) := Lib.hid (Bk.new wd _)
        have HB1 : Hid (wd.heap.size < (wd.alloc (.cells RZ 24)).heap.size) := Lib.hid (Bk.lt HZ1.out)
        refine hK.out _ _ (hHeld0.then0 hfx0) (fun hHeld1 => ?_)
        clear hK K hHeld0
        clear hfx0
        generalize wd.heap.size = pB at *
        generalize (wd.alloc (.cells RZ 24)) = wx0 at *
        change wpAnyH _ _ _ _ _ 5 #[true, false, true, false, false, true, false, false] _ _
        refine wpAnyH_ready (rs := [1, 4]) (by kernel_rfl) (by simp) ?_
        refine AllReadyH.cons rfl (fun K hK => ?_) (AllReadyH.cons rfl (fun K hK => ?_) (AllReadyH.nil))
        · simp only [zA, zB, zC]
          refine (if_pos (by kernel_rfl)).mpr ?_
          go_wp2_with fail
          refine (HRC.out _ (HF3.out.then0 hHeld1)).mono ?_
          rintro e wx1 ⟨a1, k1, rfl, hown0, hfx1⟩
          dsimp only
          replace HZ1 := Lib.hid (hfx1.keep HZ1.out (fun h => h))
          have HO0 := Lib.hid hown0
          clear hown0
          replace HB1 : Hid (pB < wx1.heap.size) := Lib.hid (Bk.lt HZ1.out)
          refine hK.out _ _ (hHeld1.then0 hfx1) (fun hHeld2 => ?_)
          clear hK K hHeld1
          clear hfx1
          change wpAnyH _ _ _ _ _ 4 #[true, true, true, false, false, true, false, false] _ _
          refine wpAnyH_ready (rs := [3, 4]) (by kernel_rfl) (by simp) ?_
          refine AllReadyH.cons rfl (fun K hK => ?_) (AllReadyH.cons rfl (fun K hK => ?_) (AllReadyH.nil))
          · simp only [zA, zB, zC]
            refine (if_pos (by kernel_rfl)).mpr ?_
            go_wp2_with fail
            refine (HRC.out _ (HF3.out.then0 hHeld2)).mono ?_
            rintro e wx2 ⟨a2, k2, rfl, hown1, hfx2⟩
            dsimp only
            replace HZ1 := Lib.hid (hfx2.keep HZ1.out (fun h => h))
            replace HO0 := Lib.hid (RV.keep HO0.out hfx2)
            have HO1 := Lib.hid hown1
            clear hown1
            replace HB1 : Hid (pB < wx2.heap.size) := Lib.hid (Bk.lt HZ1.out)
            refine hK.out _ _ (hHeld2.then0 hfx2) (fun hHeld3 => ?_)
            clear hK K hHeld2
            clear hfx2
            change wpAnyH _ _ _ _ _ 3 #[true, true, true, true, false, true, false, false] _ _
            refine wpAnyH_ready (rs := [4]) (by kernel_rfl) (by simp) ?_
            refine AllReadyH.cons rfl (fun K hK => ?_) AllReadyH.nil
            simp only [zA, zB, zC]
            refine (if_pos (by kernel_rfl)).mpr ?_
            go_wp2_with fail
            have hfx3 : Fr (fun _ => False) wx2 (wx2.alloc (.cells RZ 24)) := Fr.alloc (Fr.refl _ _) _
            have HLO0 : Hid (wE.heap.size ≤ wx2.heap.size) := Lib.hid (Fr.size hHeld3)
            have HPQ : Hid (wx2.heap.size ≠ pB) := Lib.hid (by have h1 := Bk.lt HZ1.out; omega)
            replace HZ1 := Lib.hid (hfx3.keep HZ1.out (fun h => h))
            replace HO0 := Lib.hid (RV.keep HO0.out hfx3)
            replace HO1 := Lib.hid (RV.keep HO1.out hfx3)
            have HZ0 : Hid (Bk (wx2.alloc (.cells RZ 24)) wx2.heap.size RZ 24) := Lib.hid (Bk.new wx2 _)
            have HB0 : Hid (wx2.heap.size < (wx2.alloc (.cells RZ 24)).heap.size) := Lib.hid (Bk.lt HZ0.out)
            replace HB1 : Hid (pB < (wx2.alloc (.cells RZ 24)).heap.size) := Lib.hid (Bk.lt HZ1.out)
            refine hK.out _ _ (hHeld3.then0 hfx3) (fun hHeld4 => ?_)
            clear hK K hHeld3
            clear hfx3
            generalize wx2.heap.size = pA at *
            generalize (wx2.alloc (.cells RZ 24)) = wx3 at *
            change wpAnyH _ _ _ _ _ 2 #[true, true, true, true, true, true, false, false] _ _
            refine wpAnyH_ready (rs := [6]) (by kernel_rfl) (by simp) ?_
            refine AllReadyH.cons rfl (fun K hK => ?_) AllReadyH.nil
            simp only [zA, zB, zC]
            refine (if_pos (by kernel_rfl)).mpr ?_
            refine wp_store_row 24 _ _ rfl pA (rval m a1 k1) rfl rfl 24 RZ HZ0.out (HIR.out _ _ _) rfl (HRO.out _ _ _) ?_
            have hfx4 := Fr.row1 wx3 pA (rval m a1 k1)
            replace HZ1 := Lib.hid ((show Bk (wx3.setRow pA (rval m a1 k1)) pB RZ 24 from ArrKit.Bk.rowOther HZ1.out _ (HPQ.out.symm)))
            replace HO0 := Lib.hid (RV.pastR HO0.out hfx4 HZ0.out)
            replace HO1 := Lib.hid (RV.pastR HO1.out hfx4 HZ0.out)
            have HX0' : Hid (Bk (wx3.setRow pA (rval m a1 k1)) pA (rval m a1 k1) 24) := Lib.hid (ArrKit.Bk.row HZ0.out _)
            clear HZ0
            have HZ0 := HX0'
            clear HX0'
            refine hK.out _ _ (ArrKit.Fr.row hHeld4 _ _ (.inl HLO0.out)) (fun hHeld5 => ?_)
            clear hK K hHeld4
            clear hfx4
            generalize (wx3.setRow pA (rval m a1 k1)) = wx4 at *
            change wpAnyH _ _ _ _ _ 1 #[true, true, true, true, true, true, true, false] _ _
            refine wpAnyH_ready (rs := [7]) (by kernel_rfl) (by simp) ?_
            refine AllReadyH.cons rfl (fun K hK => ?_) AllReadyH.nil
            simp only [zA, zB, zC]
            refine (if_pos (by kernel_rfl)).mpr ?_
            refine wp_store_row 24 _ _ rfl pB (rval m a2 k2) rfl rfl 24 RZ HZ1.out (HIR.out _ _ _) rfl (HRO.out _ _ _) ?_
            have hfx5 := Fr.row1 wx4 pB (rval m a2 k2)
            replace HO0 := Lib.hid (RV.pastR HO0.out hfx5 HZ1.out)
            replace HO1 := Lib.hid (RV.pastR HO1.out hfx5 HZ1.out)
            replace HZ0 := Lib.hid ((show Bk (wx4.setRow pB (rval m a2 k2)) pA (rval m a1 k1) 24 from ArrKit.Bk.rowOther HZ0.out _ (HPQ.out)))
            have HX1' : Hid (Bk (wx4.setRow pB (rval m a2 k2)) pB (rval m a2 k2) 24) := Lib.hid (ArrKit.Bk.row HZ1.out _)
            clear HZ1
            have HZ1 := HX1'
            clear HX1'
            refine hK.out _ _ (ArrKit.Fr.row hHeld5 _ _ (.inl HLO1.out)) (fun hHeld6 => ?_)
            clear hK K hHeld5
            clear hfx5
            generalize (wx4.setRow pB (rval m a2 k2)) = wx5 at *
            change wpAnyH _ _ _ _ _ 0 #[true, true, true, true, true, true, true, true] _ _
            refine wpAnyH_done (by kernel_rfl) ?_ _
            refine NoPanic.normal ?_
            have HEND := Lib.hid hHeld6
            clear hHeld6
            exact HREST2.out wx5 pA pB a1 k1 a2 k2 HEND.out ⟨a1, k1, HZ0.out, HO0.out⟩ ⟨a2, k2, HZ1.out, HO1.out⟩ HPQ.out HLO0.out HLO1.out
          · simp only [zA, zB, zC]
            refine (if_pos (by kernel_rfl)).mpr ?_
            go_wp2_with fail
            have hfx2 : Fr (fun _ => False) wx1 (wx1.alloc (.cells RZ 24)) := Fr.alloc (Fr.refl _ _) _
            have HLO0 : Hid (wE.heap.size ≤ wx1.heap.size) := Lib.hid (Fr.size hHeld2)
            have HPQ : Hid (wx1.heap.size ≠ pB) := Lib.hid (by have h1 := Bk.lt HZ1.out; omega)
            replace HZ1 := Lib.hid (hfx2.keep HZ1.out (fun h => h))
            replace HO0 := Lib.hid (RV.keep HO0.out hfx2)
            have HZ0 : Hid (Bk (wx1.alloc (.cells RZ 24)) wx1.heap.size RZ 24) := Lib.hid (Bk.new wx1 _)
            have HB0 : Hid (wx1.heap.size < (wx1.alloc (.cells RZ 24)).heap.size) := Lib.hid (Bk.lt HZ0.out)
            replace HB1 : Hid (pB < (wx1.alloc (.cells RZ 24)).heap.size) := Lib.hid (Bk.lt HZ1.out)
            refine hK.out _ _ (hHeld2.then0 hfx2) (fun hHeld3 => ?_)
            clear hK K hHeld2
            clear hfx2
            generalize wx1.heap.size = pA at *
            generalize (wx1.alloc (.cells RZ 24)) = wx2 at *
            change wpAnyH _ _ _ _ _ 3 #[true, true, true, false, true, true, false, false] _ _
            refine wpAnyH_ready (rs := [3]) (by kernel_rfl) (by simp) ?_
            refine AllReadyH.cons rfl (fun K hK => ?_) AllReadyH.nil
            simp only [zA, zB, zC]
            refine (if_pos (by kernel_rfl)).mpr ?_
            go_wp2_with fail
            refine (HRC.out _ (HF3.out.then0 hHeld3)).mono ?_
            rintro e wx3 ⟨a2, k2, rfl, hown1, hfx3⟩
            dsimp only
            replace HZ1 := Lib.hid (hfx3.keep HZ1.out (fun h => h))
            replace HO0 := Lib.hid (RV.keep HO0.out hfx3)
            replace HZ0 := Lib.hid (hfx3.keep HZ0.out (fun h => h))
            have HO1 := Lib.hid hown1
            clear hown1
            replace HB0 : Hid (pA < wx3.heap.size) := Lib.hid (Bk.lt HZ0.out)
            replace HB1 : Hid (pB < wx3.heap.size) := Lib.hid (Bk.lt HZ1.out)
            refine hK.out _ _ (hHeld3.then0 hfx3) (fun hHeld4 => ?_)
            clear hK K hHeld3
            clear hfx3
            change wpAnyH _ _ _ _ _ 2 #[true, true, true, true, true, true, false, false] _ _
            refine wpAnyH_ready (rs := [6]) (by kernel_rfl) (by simp) ?_
            refine AllReadyH.cons rfl (fun K hK => ?_) AllReadyH.nil
            simp only [zA, zB, zC]
            refine (if_pos (by kernel_rfl)).mpr ?_
            refine wp_store_row 24 _ _ rfl pA (rval m a1 k1) rfl rfl 24 RZ HZ0.out (HIR.out _ _ _) rfl (HRO.out _ _ _) ?_
            have hfx4 := Fr.row1 wx3 pA (rval m a1 k1)
            replace HZ1 := Lib.hid ((show Bk (wx3.setRow pA (rval m a1 k1)) pB RZ 24 from ArrKit.Bk.rowOther HZ1.out _ (HPQ.out.symm)))
            replace HO0 := Lib.hid (RV.pastR HO0.out hfx4 HZ0.out)
            replace HO1 := Lib.hid (RV.pastR HO1.out hfx4 HZ0.out)
            have HX0' : Hid (Bk (wx3.setRow pA (rval m a1 k1)) pA (rval m a1 k1) 24) := Lib.hid (ArrKit.Bk.row HZ0.out _)
            clear HZ0
            have HZ0 := HX0'
            clear HX0'
            refine hK.out _ _ (ArrKit.Fr.row hHeld4 _ _ (.inl HLO0.out)) (fun hHeld5 => ?_)
            clear hK K hHeld4
            clear hfx4
            generalize (wx3.setRow pA (rval m a1 k1)) = wx4 at *
            change wpAnyH _ _ _ _ _ 1 #[true, true, true, true, true, true, true, false] _ _
            refine wpAnyH_ready (rs := [7]) (by kernel_rfl) (by simp) ?_
            refine AllReadyH.cons rfl (fun K hK => ?_) AllReadyH.nil
            simp only [zA, zB, zC]
            refine (if_pos (by kernel_rfl)).mpr ?_
            refine wp_store_row 24 _ _ rfl pB (rval m a2 k2) rfl rfl 24 RZ HZ1.out (HIR.out _ _ _) rfl (HRO.out _ _ _) ?_
            have hfx5 := Fr.row1 wx4 pB (rval m a2 k2)
            replace HO0 := Lib.hid (RV.pastR HO0.out hfx5 HZ1.out)
            replace HZ0 := Lib.hid ((show Bk (wx4.setRow pB (rval m a2 k2)) pA (rval m a1 k1) 24 from ArrKit.Bk.rowOther HZ0.out _ (HPQ.out)))
            replace HO1 := Lib.hid (RV.pastR HO1.out hfx5 HZ1.out)
            have HX1' : Hid (Bk (wx4.setRow pB (rval m a2 k2)) pB (rval m a2 k2) 24) := Lib.hid (ArrKit.Bk.row HZ1.out _)
            clear HZ1
            have HZ1 := HX1'
            clear HX1'
            refine hK.out _ _ (ArrKit.Fr.row hHeld5 _ _ (.inl HLO1.out)) (fun hHeld6 => ?_)
            clear hK K hHeld5
            clear hfx5
            generalize (wx4.setRow pB (rval m a2 k2)) = wx5 at *
            change wpAnyH _ _ _ _ _ 0 #[true, true, true, true, true, true, true, true] _ _
            refine wpAnyH_done (by kernel_rfl) ?_ _
            refine NoPanic.normal ?_
            have HEND := Lib.hid hHeld6
            clear hHeld6
            exact HREST2.out wx5 pA pB a1 k1 a2 k2 HEND.out ⟨a1, k1, HZ0.out, HO0.out⟩ ⟨a2, k2, HZ1.out, HO1.out⟩ HPQ.out HLO0.out HLO1.out
        · simp only [zA, zB, zC]
          refine (if_pos (by kernel_rfl)).mpr ?_
          go_wp2_with fail
          have hfx1 : Fr (fun _ => False) wx0 (wx0.alloc (.cells RZ 24)) := Fr.alloc (Fr.refl _ _) _
          have HLO0 : Hid (wE.heap.size ≤ wx0.heap.size) := Lib.hid (Fr.size hHeld1)
          have HPQ : Hid (wx0.heap.size ≠ pB) := Lib.hid (by have h1 := Bk.lt HZ1.out; omega)
          replace HZ1 := Lib.hid (hfx1.keep HZ1.out (fun h => h))
          have HZ0 : Hid (Bk (wx0.alloc (.cells RZ 24)) wx0.heap.size RZ 24) := Lib.hid (Bk.new wx0 _)
          have HB0 : Hid (wx0.heap.size < (wx0.alloc (.cells RZ 24)).heap.size) := Lib.hid (Bk.lt HZ0.out)
          replace HB1 : Hid (pB < (wx0.alloc (.cells RZ 24)).heap.size) := Lib.hid (Bk.lt HZ1.out)
          refine hK.out _ _ (hHeld1.then0 hfx1) (fun hHeld2 => ?_)
          clear hK K hHeld1
          clear hfx1
          generalize wx0.heap.size = pA at *
          generalize (wx0.alloc (.cells RZ 24)) = wx1 at *
          change wpAnyH _ _ _ _ _ 4 #[true, false, true, false, true, true, false, false] _ _
          refine wpAnyH_ready (rs := [1]) (by kernel_rfl) (by simp) ?_
          refine AllReadyH.cons rfl (fun K hK => ?_) AllReadyH.nil
          simp only [zA, zB, zC]
          refine (if_pos (by kernel_rfl)).mpr ?_
          go_wp2_with fail
          refine (HRC.out _ (HF3.out.then0 hHeld2)).mono ?_
          rintro e wx2 ⟨a1, k1, rfl, hown0, hfx2⟩
          dsimp only
          replace HZ1 := Lib.hid (hfx2.keep HZ1.out (fun h => h))
          replace HZ0 := Lib.hid (hfx2.keep HZ0.out (fun h => h))
          have HO0 := Lib.hid hown0
          clear hown0
          replace HB0 : Hid (pA < wx2.heap.size) := Lib.hid (Bk.lt HZ0.out)
          replace HB1 : Hid (pB < wx2.heap.size) := Lib.hid (Bk.lt HZ1.out)
          refine hK.out _ _ (hHeld2.then0 hfx2) (fun hHeld3 => ?_)
          clear hK K hHeld2
          clear hfx2
          change wpAnyH _ _ _ _ _ 3 #[true, true, true, false, true, true, false, false] _ _
          refine wpAnyH_ready (rs := [3]) (by kernel_rfl) (by simp) ?_
          refine AllReadyH.cons rfl (fun K hK => ?_) AllReadyH.nil
          simp only [zA, zB, zC]
          refine (if_pos (by kernel_rfl)).mpr ?_
          go_wp2_with fail
          refine (HRC.out _ (HF3.out.then0 hHeld3)).mono ?_
          rintro e wx3 ⟨a2, k2, rfl, hown1, hfx3⟩
          dsimp only
          replace HZ1 := Lib.hid (hfx3.keep HZ1.out (fun h => h))
          replace HZ0 := Lib.hid (hfx3.keep HZ0.out (fun h => h))
          replace HO0 := Lib.hid (RV.keep HO0.out hfx3)
          have HO1 := Lib.hid hown1
          clear hown1
          replace HB0 : Hid (pA < wx3.heap.size) := Lib.hid (Bk.lt HZ0.out)
          replace HB1 : Hid (pB < wx3.heap.size) := Lib.hid (Bk.lt HZ1.out)
          refine hK.out _ _ (hHeld3.then0 hfx3) (fun hHeld4 => ?_)
          clear hK K hHeld3
          clear hfx3
          change wpAnyH _ _ _ _ _ 2 #[true, true, true, true, true, true, false, false] _ _
          refine wpAnyH_ready (rs := [6]) (by kernel_rfl) (by simp) ?_
          refine AllReadyH.cons rfl (fun K hK => ?_) AllReadyH.nil
          simp only [zA, zB, zC]
          refine (if_pos (by kernel_rfl)).mpr ?_
          refine wp_store_row 24 _ _ rfl pA (rval m a1 k1) rfl rfl 24 RZ HZ0.out (HIR.out _ _ _) rfl (HRO.out _ _ _) ?_
          have hfx4 := Fr.row1 wx3 pA (rval m a1 k1)
          replace HZ1 := Lib.hid ((show Bk (wx3.setRow pA (rval m a1 k1)) pB RZ 24 from ArrKit.Bk.rowOther HZ1.out _ (HPQ.out.symm)))
          replace HO0 := Lib.hid (RV.pastR HO0.out hfx4 HZ0.out)
          replace HO1 := Lib.hid (RV.pastR HO1.out hfx4 HZ0.out)
          have HX0' : Hid (Bk (wx3.setRow pA (rval m a1 k1)) pA (rval m a1 k1) 24) := Lib.hid (ArrKit.Bk.row HZ0.out _)
          clear HZ0
          have HZ0 := HX0'
          clear HX0'
          refine hK.out _ _ (ArrKit.Fr.row hHeld4 _ _ (.inl HLO0.out)) (fun hHeld5 => ?_)
          clear hK K hHeld4
          clear hfx4
          generalize (wx3.setRow pA (rval m a1 k1)) = wx4 at *
          change wpAnyH _ _ _ _ _ 1 #[true, true, true, true, true, true, true, false] _ _
          refine wpAnyH_ready (rs := [7]) (by kernel_rfl) (by simp) ?_
          refine AllReadyH.cons rfl (fun K hK => ?_) AllReadyH.nil
          simp only [zA, zB, zC]
          refine (if_pos (by kernel_rfl)).mpr ?_
          refine wp_store_row 24 _ _ rfl pB (rval m a2 k2) rfl rfl 24 RZ HZ1.out (HIR.out _ _ _) rfl (HRO.out _ _ _) ?_
          have hfx5 := Fr.row1 wx4 pB (rval m a2 k2)
          replace HZ0 := Lib.hid ((show Bk (wx4.setRow pB (rval m a2 k2)) pA (rval m a1 k1) 24 from ArrKit.Bk.rowOther HZ0.out _ (HPQ.out)))
          replace HO0 := Lib.hid (RV.pastR HO0.out hfx5 HZ1.out)
          replace HO1 := Lib.hid (RV.pastR HO1.out hfx5 HZ1.out)
          have HX1' : Hid (Bk (wx4.setRow pB (rval m a2 k2)) pB (rval m a2 k2) 24) := Lib.hid (ArrKit.Bk.row HZ1.out _)
          clear HZ1
          have HZ1 := HX1'
          clear HX1'
          refine hK.out _ _ (ArrKit.Fr.row hHeld5 _ _ (.inl HLO1.out)) (fun hHeld6 => ?_)
          clear hK K hHeld5
          clear hfx5
          generalize (wx4.setRow pB (rval m a2 k2)) = wx5 at *
          change wpAnyH _ _ _ _ _ 0 #[true, true, true, true, true, true, true, true] _ _
          refine wpAnyH_done (by kernel_rfl) ?_ _
          refine NoPanic.normal ?_
          have HEND := Lib.hid hHeld6
          clear hHeld6
          exact HREST2.out wx5 pA pB a1 k1 a2 k2 HEND.out ⟨a1, k1, HZ0.out, HO0.out⟩ ⟨a2, k2, HZ1.out, HO1.out⟩ HPQ.out HLO0.out HLO1.out
      )
    clear hKA
    refine wp_region_noPanic ?_
    refine wp_region_held_drew (S := (fun W : World => Fr (fun _ => False) w2 W)) (by kernel_rfl) (Fr.drew (Fr.refl _ _)) (fun hHeld0 => ?_)
    generalize w2.drew = wd at *
    refine tk (i := 0) (v := .agg (dval d sa sc ca cc)) rfl (yields_row (by kernel_rfl) 39 _ rfl (w.heap.size) rfl 39 (dval d sa sc ca cc) (0, 0) _ (fun _ h => Fr.keep h HX2.out (fun h => h)) Tryd.underlying39 rfl (HID.out _ _ _ _ _)) hHeld0 ?_
    simp only [Act.put, zA, zB, zC, zD, zE, zF]
    refine tk (i := 2) (v := .agg (dval d sa sc ca cc)) rfl (yields_row (by kernel_rfl) 39 _ rfl (w.heap.size) rfl 39 (dval d sa sc ca cc) (0, 0) _ (fun _ h => Fr.keep h HX2.out (fun h => h)) Tryd.underlying39 rfl (HID.out _ _ _ _ _)) hHeld0 ?_
    simp only [Act.put, zA, zB, zC, zD, zE, zF]
    change wpAnyH _ _ _ _ _ 6 #[true, false, true, false, false, false, false, false] _ _
    refine wpAnyH_ready (rs := [1, 4, 5]) (by kernel_rfl) (by simp) ?_
    refine AllReadyH.cons rfl (fun K hK => ?_) (AllReadyH.cons rfl (fun K hK => ?_) (AllReadyH.cons rfl (fun K hK => ?_) (AllReadyH.nil)))
    · simp only [zA, zB, zC]
      refine (if_pos (by kernel_rfl)).mpr ?_
      go_wp2_with fail
      refine (HDC.out _ (HF2.out.then0 hHeld0)).mono ?_
      rintro e wx0 ⟨s1, n1, c1, m1, rfl, hown0, hfx0⟩
      dsimp only
      have HO0 := Lib.hid hown0
      clear hown0
      refine hK.out _ _ (hHeld0.then0 hfx0) (fun hHeld1 => ?_)
      clear hK K hHeld0
      clear hfx0
      change wpAnyH _ _ _ _ _ 5 #[true, true, true, false, false, false, false, false] _ _
      refine wpAnyH_ready (rs := [3, 4, 5]) (by kernel_rfl) (by simp) ?_
      refine AllReadyH.cons rfl (fun K hK => ?_) (AllReadyH.cons rfl (fun K hK => ?_) (AllReadyH.cons rfl (fun K hK => ?_) (AllReadyH.nil)))
      · simp only [zA, zB, zC]
        refine (if_pos (by kernel_rfl)).mpr ?_
        go_wp2_with fail
        refine (HDC.out _ (HF2.out.then0 hHeld1)).mono ?_
        rintro e wx1 ⟨s2, n2, c2, m2, rfl, hown1, hfx1⟩
        dsimp only
        replace HO0 := Lib.hid (DV.keep HO0.out hfx1)
        have HO1 := Lib.hid hown1
        clear hown1
        refine hK.out _ _ (hHeld1.then0 hfx1) (fun hHeld2 => ?_)
        clear hK K hHeld1
        clear hfx1
        change wpAnyH _ _ _ _ _ 4 #[true, true, true, true, false, false, false, false] _ _
        refine wpAnyH_ready (rs := [4, 5]) (by kernel_rfl) (by simp) ?_
        refine AllReadyH.cons rfl (fun K hK => ?_) (AllReadyH.cons rfl (fun K hK => ?_) (AllReadyH.nil))
        · simp only [zA, zB, zC]
          refine (if_pos (by kernel_rfl)).mpr ?_
          go_wp2_with fail
          have hfx2 : Fr (fun _ => False) wx1 (wx1.alloc (.cells DZ 39)) := Fr.alloc (Fr.refl _ _) _
          have HLO0 : Hid (w2.heap.size ≤ wx1.heap.size) := Lib.hid (Fr.size hHeld2)
          replace HO0 := Lib.hid (DV.keep HO0.out hfx2)
          replace HO1 := Lib.hid (DV.keep HO1.out hfx2)
          have HZ0 : Hid (Bk (wx1.alloc (.cells DZ 39)) wx1.heap.size DZ 39) := Lib.hid (Bk.new wx1 _)
          have HB0 : Hid (wx1.heap.size < (wx1.alloc (.cells DZ 39)).heap.size) := Lib.hid (Bk.lt HZ0.out)
          refine hK.out _ _ (hHeld2.then0 hfx2) (fun hHeld3 => ?_)
          clear hK K hHeld2
          clear hfx2
          generalize wx1.heap.size = pA at *
          generalize (wx1.alloc (.cells DZ 39)) = wx2 at *
          change wpAnyH _ _ _ _ _ 3 #[true, true, true, true, true, false, false, false] _ _
          refine wpAnyH_ready (rs := [5]) (by kernel_rfl) (by simp) ?_
          refine AllReadyH.cons rfl (fun K hK => ?_) AllReadyH.nil
          simp only [zA, zB, zC]
          refine (if_pos (by kernel_rfl)).mpr ?_
          go_wp2_with fail
          have hfx3 : Fr (fun _ => False) wx2 (wx2.alloc (.cells DZ 39)) := Fr.alloc (Fr.refl _ _) _
          have HLO1 : Hid (w2.heap.size ≤ wx2.heap.size) := Lib.hid (Fr.size hHeld3)
          have HPQ : Hid (pA ≠ wx2.heap.size) := Lib.hid (by have h1 := Bk.lt HZ0.out; omega)
          replace HO0 := Lib.hid (DV.keep HO0.out hfx3)
          replace HO1 := Lib.hid (DV.keep HO1.out hfx3)
          replace HZ0 := Lib.hid (hfx3.keep HZ0.out (fun h => h))
          have HZ1 : Hid (Bk (wx2.alloc (.cells DZ 39)) wx2.heap.size DZ 39) := Lib.hid (Bk.new wx2 _)
          have HB1 : Hid (wx2.heap.size < (wx2.alloc (.cells DZ 39)).heap.size) := Lib.hid (Bk.lt HZ1.out)
          replace HB0 : Hid (pA < (wx2.alloc (.cells DZ 39)).heap.size) := Lib.hid (Bk.lt HZ0.out)
          refine hK.out _ _ (hHeld3.then0 hfx3) (fun hHeld4 => ?_)
          clear hK K hHeld3
          clear hfx3
          generalize wx2.heap.size = pB at *
          generalize (wx2.alloc (.cells DZ 39)) = wx3 at *
          change wpAnyH _ _ _ _ _ 2 #[true, true, true, true, true, true, false, false] _ _
          refine wpAnyH_ready (rs := [6]) (by kernel_rfl) (by simp) ?_
          refine AllReadyH.cons rfl (fun K hK => ?_) AllReadyH.nil
          simp only [zA, zB, zC]
          refine (if_pos (by kernel_rfl)).mpr ?_
          refine wp_store_row 39 _ _ rfl pA (dval d s1 n1 c1 m1) rfl rfl 39 DZ HZ0.out (HID.out _ _ _ _ _) rfl (HDO.out _ _ _ _ _) ?_
          have hfx4 := Fr.row1 wx3 pA (dval d s1 n1 c1 m1)
          replace HO0 := Lib.hid (DV.past HO0.out HOK.out hfx4 HZ0.out DZ_no)
          replace HO1 := Lib.hid (DV.past HO1.out HOK.out hfx4 HZ0.out DZ_no)
          replace HZ1 := Lib.hid ((show Bk (wx3.setRow pA (dval d s1 n1 c1 m1)) pB DZ 39 from ArrKit.Bk.rowOther HZ1.out _ (HPQ.out.symm)))
          have HX0' : Hid (Bk (wx3.setRow pA (dval d s1 n1 c1 m1)) pA (dval d s1 n1 c1 m1) 39) := Lib.hid (ArrKit.Bk.row HZ0.out _)
          clear HZ0
          have HZ0 := HX0'
          clear HX0'
          refine hK.out _ _ (ArrKit.Fr.row hHeld4 _ _ (.inl HLO0.out)) (fun hHeld5 => ?_)
          clear hK K hHeld4
          clear hfx4
          generalize (wx3.setRow pA (dval d s1 n1 c1 m1)) = wx4 at *
          change wpAnyH _ _ _ _ _ 1 #[true, true, true, true, true, true, true, false] _ _
          refine wpAnyH_ready (rs := [7]) (by kernel_rfl) (by simp) ?_
          refine AllReadyH.cons rfl (fun K hK => ?_) AllReadyH.nil
          simp only [zA, zB, zC]
          refine (if_pos (by kernel_rfl)).mpr ?_
          refine wp_store_row 39 _ _ rfl pB (dval d s2 n2 c2 m2) rfl rfl 39 DZ HZ1.out (HID.out _ _ _ _ _) rfl (HDO.out _ _ _ _ _) ?_
          have hfx5 := Fr.row1 wx4 pB (dval d s2 n2 c2 m2)
          replace HO0 := Lib.hid (DV.past HO0.out HOK.out hfx5 HZ1.out DZ_no)
          replace HO1 := Lib.hid (DV.past HO1.out HOK.out hfx5 HZ1.out DZ_no)
          replace HZ0 := Lib.hid ((show Bk (wx4.setRow pB (dval d s2 n2 c2 m2)) pA (dval d s1 n1 c1 m1) 39 from ArrKit.Bk.rowOther HZ0.out _ (HPQ.out)))
          have HX1' : Hid (Bk (wx4.setRow pB (dval d s2 n2 c2 m2)) pB (dval d s2 n2 c2 m2) 39) := Lib.hid (ArrKit.Bk.row HZ1.out _)
          clear HZ1
          have HZ1 := HX1'
          clear HX1'
          refine hK.out _ _ (ArrKit.Fr.row hHeld5 _ _ (.inl HLO1.out)) (fun hHeld6 => ?_)
          clear hK K hHeld5
          clear hfx5
          generalize (wx4.setRow pB (dval d s2 n2 c2 m2)) = wx5 at *
          change wpAnyH _ _ _ _ _ 0 #[true, true, true, true, true, true, true, true] _ _
          refine wpAnyH_done (by kernel_rfl) ?_ _
          refine NoPanic.normal ?_
          have HEND := Lib.hid hHeld6
          clear hHeld6
          exact HREST.out wx5 pA pB s1 n1 c1 m1 s2 n2 c2 m2 HEND.out ⟨HZ0.out, HO0.out⟩ ⟨HZ1.out, HO1.out⟩ HPQ.out HLO0.out HLO1.out
        · simp only [zA, zB, zC]
          refine (if_pos (by kernel_rfl)).mpr ?_
          go_wp2_with fail
          have hfx2 : Fr (fun _ => False) wx1 (wx1.alloc (.cells DZ 39)) := Fr.alloc (Fr.refl _ _) _
          have HLO1 : Hid (w2.heap.size ≤ wx1.heap.size) := Lib.hid (Fr.size hHeld2)
          replace HO0 := Lib.hid (DV.keep HO0.out hfx2)
          replace HO1 := Lib.hid (DV.keep HO1.out hfx2)
          have HZ1 : Hid (Bk (wx1.alloc (.cells DZ 39)) wx1.heap.size DZ 39) := Lib.hid (Bk.new wx1 _)
          have HB1 : Hid (wx1.heap.size < (wx1.alloc (.cells DZ 39)).heap.size) := Lib.hid (Bk.lt HZ1.out)
          refine hK.out _ _ (hHeld2.then0 hfx2) (fun hHeld3 => ?_)
          clear hK K hHeld2
          clear hfx2
          generalize wx1.heap.size = pB at *
          generalize (wx1.alloc (.cells DZ 39)) = wx2 at *
          change wpAnyH _ _ _ _ _ 3 #[true, true, true, true, false, true, false, false] _ _
          refine wpAnyH_ready (rs := [4]) (by kernel_rfl) (by simp) ?_
          refine AllReadyH.cons rfl (fun K hK => ?_) AllReadyH.nil
          simp only [zA, zB, zC]
          refine (if_pos (by kernel_rfl)).mpr ?_
          go_wp2_with fail
          have hfx3 : Fr (fun _ => False) wx2 (wx2.alloc (.cells DZ 39)) := Fr.alloc (Fr.refl _ _) _
          have HLO0 : Hid (w2.heap.size ≤ wx2.heap.size) := Lib.hid (Fr.size hHeld3)
          have HPQ : Hid (wx2.heap.size ≠ pB) := Lib.hid (by have h1 := Bk.lt HZ1.out; omega)
          replace HO0 := Lib.hid (DV.keep HO0.out hfx3)
          replace HO1 := Lib.hid (DV.keep HO1.out hfx3)
          replace HZ1 := Lib.hid (hfx3.keep HZ1.out (fun h => h))
          have HZ0 : Hid (Bk (wx2.alloc (.cells DZ 39)) wx2.heap.size DZ 39) := Lib.hid (Bk.new wx2 _)
          have HB0 : Hid (wx2.heap.size < (wx2.alloc (.cells DZ 39)).heap.size) := Lib.hid (Bk.lt HZ0.out)
          replace HB1 : Hid (pB < (wx2.alloc (.cells DZ 39)).heap.size) := Lib.hid (Bk.lt HZ1.out)
          refine hK.out _ _ (hHeld3.then0 hfx3) (fun hHeld4 => ?_)
          clear hK K hHeld3
          clear hfx3
          generalize wx2.heap.size = pA at *
          generalize (wx2.alloc (.cells DZ 39)) = wx3 at *
          change wpAnyH _ _ _ _ _ 2 #[true, true, true, true, true, true, false, false] _ _
          refine wpAnyH_ready (rs := [6]) (by kernel_rfl) (by simp) ?_
          refine AllReadyH.cons rfl (fun K hK => ?_) AllReadyH.nil
          simp only [zA, zB, zC]
          refine (if_pos (by kernel_rfl)).mpr ?_
          refine wp_store_row 39 _ _ rfl pA (dval d s1 n1 c1 m1) rfl rfl 39 DZ HZ0.out (HID.out _ _ _ _ _) rfl (HDO.out _ _ _ _ _) ?_
          have hfx4 := Fr.row1 wx3 pA (dval d s1 n1 c1 m1)
          replace HO0 := Lib.hid (DV.past HO0.out HOK.out hfx4 HZ0.out DZ_no)
          replace HO1 := Lib.hid (DV.past HO1.out HOK.out hfx4 HZ0.out DZ_no)
          replace HZ1 := Lib.hid ((show Bk (wx3.setRow pA (dval d s1 n1 c1 m1)) pB DZ 39 from ArrKit.Bk.rowOther HZ1.out _ (HPQ.out.symm)))
          have HX0' : Hid (Bk (wx3.setRow pA (dval d s1 n1 c1 m1)) pA (dval d s1 n1 c1 m1) 39) := Lib.hid (ArrKit.Bk.row HZ0.out _)
          clear HZ0
          have HZ0 := HX0'
          clear HX0'
          refine hK.out _ _ (ArrKit.Fr.row hHeld4 _ _ (.inl HLO0.out)) (fun hHeld5 => ?_)
          clear hK K hHeld4
          clear hfx4
          generalize (wx3.setRow pA (dval d s1 n1 c1 m1)) = wx4 at *
          change wpAnyH _ _ _ _ _ 1 #[true, true, true, true, true, true, true, false] _ _
          refine wpAnyH_ready (rs := [7]) (by kernel_rfl) (by simp) ?_
          refine AllReadyH.cons rfl (fun K hK => ?_) AllReadyH.nil
          simp only [zA, zB, zC]
          refine (if_pos (by kernel_rfl)).mpr ?_
          refine wp_store_row 39 _ _ rfl pB (dval d s2 n2 c2 m2) rfl rfl 39 DZ HZ1.out (HID.out _ _ _ _ _) rfl (HDO.out _ _ _ _ _) ?_
          have hfx5 := Fr.row1 wx4 pB (dval d s2 n2 c2 m2)
          replace HO0 := Lib.hid (DV.past HO0.out HOK.out hfx5 HZ1.out DZ_no)
          replace HO1 := Lib.hid (DV.past HO1.out HOK.out hfx5 HZ1.out DZ_no)
          replace HZ0 := Lib.hid ((show Bk (wx4.setRow pB (dval d s2 n2 c2 m2)) pA (dval d s1 n1 c1 m1) 39 from ArrKit.Bk.rowOther HZ0.out _ (HPQ.out)))
          have HX1' : Hid (Bk (wx4.setRow pB (dval d s2 n2 c2 m2)) pB (dval d s2 n2 c2 m2) 39) := Lib.hid (ArrKit.Bk.row HZ1.out _)
          clear HZ1
          have HZ1 := HX1'
          clear HX1'
          refine hK.out _ _ (ArrKit.Fr.row hHeld5 _ _ (.inl HLO1.out)) (fun hHeld6 => ?_)
          clear hK K hHeld5
          clear hfx5
          generalize (wx4.setRow pB (dval d s2 n2 c2 m2)) = wx5 at *
          change wpAnyH _ _ _ _ _ 0 #[true, true, true, true, true, true, true, true] _ _
          refine wpAnyH_done (by kernel_rfl) ?_ _
          refine NoPanic.normal ?_
          have HEND := Lib.hid hHeld6
          clear hHeld6
          exact HREST.out wx5 pA pB s1 n1 c1 m1 s2 n2 c2 m2 HEND.out ⟨HZ0.out, HO0.out⟩ ⟨HZ1.out, HO1.out⟩ HPQ.out HLO0.out HLO1.out
      · simp only [zA, zB, zC]
        refine (if_pos (by kernel_rfl)).mpr ?_
        go_wp2_with fail
        have hfx1 : Fr (fun _ => False) wx0 (wx0.alloc (.cells DZ 39)) := Fr.alloc (Fr.refl _ _) _
        have HLO0 : Hid (w2.heap.size ≤ wx0.heap.size) := Lib.hid (Fr.size hHeld1)
        replace HO0 := Lib.hid (DV.keep HO0.out hfx1)
        have HZ0 : Hid (Bk (wx0.alloc (.cells DZ 39)) wx0.heap.size DZ 39) := Lib.hid (Bk.new wx0 _)
        have HB0 : Hid (wx0.heap.size < (wx0.alloc (.cells DZ 39)).heap.size) := Lib.hid (Bk.lt HZ0.out)
        refine hK.out _ _ (hHeld1.then0 hfx1) (fun hHeld2 => ?_)
        clear hK K hHeld1
        clear hfx1
        generalize wx0.heap.size = pA at *
        generalize (wx0.alloc (.cells DZ 39)) = wx1 at *
        change wpAnyH _ _ _ _ _ 4 #[true, true, true, false, true, false, false, false] _ _
        refine wpAnyH_ready (rs := [3, 5]) (by kernel_rfl) (by simp) ?_
        refine AllReadyH.cons rfl (fun K hK => ?_) (AllReadyH.cons rfl (fun K hK => ?_) (AllReadyH.nil))
        · simp only [zA, zB, zC]
          refine (if_pos (by kernel_rfl)).mpr ?_
          go_wp2_with fail
          refine (HDC.out _ (HF2.out.then0 hHeld2)).mono ?_
          rintro e wx2 ⟨s2, n2, c2, m2, rfl, hown1, hfx2⟩
          dsimp only
          replace HO0 := Lib.hid (DV.keep HO0.out hfx2)
          replace HZ0 := Lib.hid (hfx2.keep HZ0.out (fun h => h))
          have HO1 := Lib.hid hown1
          clear hown1
          replace HB0 : Hid (pA < wx2.heap.size) := Lib.hid (Bk.lt HZ0.out)
          refine hK.out _ _ (hHeld2.then0 hfx2) (fun hHeld3 => ?_)
          clear hK K hHeld2
          clear hfx2
          change wpAnyH _ _ _ _ _ 3 #[true, true, true, true, true, false, false, false] _ _
          refine wpAnyH_ready (rs := [5]) (by kernel_rfl) (by simp) ?_
          refine AllReadyH.cons rfl (fun K hK => ?_) AllReadyH.nil
          simp only [zA, zB, zC]
          refine (if_pos (by kernel_rfl)).mpr ?_
          go_wp2_with fail
          have hfx3 : Fr (fun _ => False) wx2 (wx2.alloc (.cells DZ 39)) := Fr.alloc (Fr.refl _ _) _
          have HLO1 : Hid (w2.heap.size ≤ wx2.heap.size) := Lib.hid (Fr.size hHeld3)
          have HPQ : Hid (pA ≠ wx2.heap.size) := Lib.hid (by have h1 := Bk.lt HZ0.out; omega)
          replace HO0 := Lib.hid (DV.keep HO0.out hfx3)
          replace HZ0 := Lib.hid (hfx3.keep HZ0.out (fun h => h))
          replace HO1 := Lib.hid (DV.keep HO1.out hfx3)
          have HZ1 : Hid (Bk (wx2.alloc (.cells DZ 39)) wx2.heap.size DZ 39) := Lib.hid (Bk.new wx2 _)
          have HB1 : Hid (wx2.heap.size < (wx2.alloc (.cells DZ 39)).heap.size) := Lib.hid (Bk.lt HZ1.out)
          replace HB0 : Hid (pA < (wx2.alloc (.cells DZ 39)).heap.size) := Lib.hid (Bk.lt HZ0.out)
          refine hK.out _ _ (hHeld3.then0 hfx3) (fun hHeld4 => ?_)
          clear hK K hHeld3
          clear hfx3
          generalize wx2.heap.size = pB at *
          generalize (wx2.alloc (.cells DZ 39)) = wx3 at *
          change wpAnyH _ _ _ _ _ 2 #[true, true, true, true, true, true, false, false] _ _
          refine wpAnyH_ready (rs := [6]) (by kernel_rfl) (by simp) ?_
          refine AllReadyH.cons rfl (fun K hK => ?_) AllReadyH.nil
          simp only [zA, zB, zC]
          refine (if_pos (by kernel_rfl)).mpr ?_
          refine wp_store_row 39 _ _ rfl pA (dval d s1 n1 c1 m1) rfl rfl 39 DZ HZ0.out (HID.out _ _ _ _ _) rfl (HDO.out _ _ _ _ _) ?_
          have hfx4 := Fr.row1 wx3 pA (dval d s1 n1 c1 m1)
          replace HO0 := Lib.hid (DV.past HO0.out HOK.out hfx4 HZ0.out DZ_no)
          replace HO1 := Lib.hid (DV.past HO1.out HOK.out hfx4 HZ0.out DZ_no)
          replace HZ1 := Lib.hid ((show Bk (wx3.setRow pA (dval d s1 n1 c1 m1)) pB DZ 39 from ArrKit.Bk.rowOther HZ1.out _ (HPQ.out.symm)))
          have HX0' : Hid (Bk (wx3.setRow pA (dval d s1 n1 c1 m1)) pA (dval d s1 n1 c1 m1) 39) := Lib.hid (ArrKit.Bk.row HZ0.out _)
          clear HZ0
          have HZ0 := HX0'
          clear HX0'
          refine hK.out _ _ (ArrKit.Fr.row hHeld4 _ _ (.inl HLO0.out)) (fun hHeld5 => ?_)
          clear hK K hHeld4
          clear hfx4
          generalize (wx3.setRow pA (dval d s1 n1 c1 m1)) = wx4 at *
          change wpAnyH _ _ _ _ _ 1 #[true, true, true, true, true, true, true, false] _ _
          refine wpAnyH_ready (rs := [7]) (by kernel_rfl) (by simp) ?_
          refine AllReadyH.cons rfl (fun K hK => ?_) AllReadyH.nil
          simp only [zA, zB, zC]
          refine (if_pos (by kernel_rfl)).mpr ?_
          refine wp_store_row 39 _ _ rfl pB (dval d s2 n2 c2 m2) rfl rfl 39 DZ HZ1.out (HID.out _ _ _ _ _) rfl (HDO.out _ _ _ _ _) ?_
          have hfx5 := Fr.row1 wx4 pB (dval d s2 n2 c2 m2)
          replace HO0 := Lib.hid (DV.past HO0.out HOK.out hfx5 HZ1.out DZ_no)
          replace HZ0 := Lib.hid ((show Bk (wx4.setRow pB (dval d s2 n2 c2 m2)) pA (dval d s1 n1 c1 m1) 39 from ArrKit.Bk.rowOther HZ0.out _ (HPQ.out)))
          replace HO1 := Lib.hid (DV.past HO1.out HOK.out hfx5 HZ1.out DZ_no)
          have HX1' : Hid (Bk (wx4.setRow pB (dval d s2 n2 c2 m2)) pB (dval d s2 n2 c2 m2) 39) := Lib.hid (ArrKit.Bk.row HZ1.out _)
          clear HZ1
          have HZ1 := HX1'
          clear HX1'
          refine hK.out _ _ (ArrKit.Fr.row hHeld5 _ _ (.inl HLO1.out)) (fun hHeld6 => ?_)
          clear hK K hHeld5
          clear hfx5
          generalize (wx4.setRow pB (dval d s2 n2 c2 m2)) = wx5 at *
          change wpAnyH _ _ _ _ _ 0 #[true, true, true, true, true, true, true, true] _ _
          refine wpAnyH_done (by kernel_rfl) ?_ _
          refine NoPanic.normal ?_
          have HEND := Lib.hid hHeld6
          clear hHeld6
          exact HREST.out wx5 pA pB s1 n1 c1 m1 s2 n2 c2 m2 HEND.out ⟨HZ0.out, HO0.out⟩ ⟨HZ1.out, HO1.out⟩ HPQ.out HLO0.out HLO1.out
        · simp only [zA, zB, zC]
          refine (if_pos (by kernel_rfl)).mpr ?_
          go_wp2_with fail
          have hfx2 : Fr (fun _ => False) wx1 (wx1.alloc (.cells DZ 39)) := Fr.alloc (Fr.refl _ _) _
          have HLO1 : Hid (w2.heap.size ≤ wx1.heap.size) := Lib.hid (Fr.size hHeld2)
          have HPQ : Hid (pA ≠ wx1.heap.size) := Lib.hid (by have h1 := Bk.lt HZ0.out; omega)
          replace HO0 := Lib.hid (DV.keep HO0.out hfx2)
          replace HZ0 := Lib.hid (hfx2.keep HZ0.out (fun h => h))
          have HZ1 : Hid (Bk (wx1.alloc (.cells DZ 39)) wx1.heap.size DZ 39) := Lib.hid (Bk.new wx1 _)
          have HB1 : Hid (wx1.heap.size < (wx1.alloc (.cells DZ 39)).heap.size) := Lib.hid (Bk.lt HZ1.out)
          replace HB0 : Hid (pA < (wx1.alloc (.cells DZ 39)).heap.size) := Lib.hid (Bk.lt HZ0.out)
          refine hK.out _ _ (hHeld2.then0 hfx2) (fun hHeld3 => ?_)
          clear hK K hHeld2
          clear hfx2
          generalize wx1.heap.size = pB at *
          generalize (wx1.alloc (.cells DZ 39)) = wx2 at *
          change wpAnyH _ _ _ _ _ 3 #[true, true, true, false, true, true, false, false] _ _
          refine wpAnyH_ready (rs := [3]) (by kernel_rfl) (by simp) ?_
          refine AllReadyH.cons rfl (fun K hK => ?_) AllReadyH.nil
          simp only [zA, zB, zC]
          refine (if_pos (by kernel_rfl)).mpr ?_
          go_wp2_with fail
          refine (HDC.out _ (HF2.out.then0 hHeld3)).mono ?_
          rintro e wx3 ⟨s2, n2, c2, m2, rfl, hown1, hfx3⟩
          dsimp only
          replace HO0 := Lib.hid (DV.keep HO0.out hfx3)
          replace HZ0 := Lib.hid (hfx3.keep HZ0.out (fun h => h))
          replace HZ1 := Lib.hid (hfx3.keep HZ1.out (fun h => h))
          have HO1 := Lib.hid hown1
          clear hown1
          replace HB0 : Hid (pA < wx3.heap.size) := Lib.hid (Bk.lt HZ0.out)
          replace HB1 : Hid (pB < wx3.heap.size) := Lib.hid (Bk.lt HZ1.out)
          refine hK.out _ _ (hHeld3.then0 hfx3) (fun hHeld4 => ?_)
          clear hK K hHeld3
          clear hfx3
          change wpAnyH _ _ _ _ _ 2 #[true, true, true, true, true, true, false, false] _ _
          refine wpAnyH_ready (rs := [6]) (by kernel_rfl) (by simp) ?_
          refine AllReadyH.cons rfl (fun K hK => ?_) AllReadyH.nil
          simp only [zA, zB, zC]
          refine (if_pos (by kernel_rfl)).mpr ?_
          refine wp_store_row 39 _ _ rfl pA (dval d s1 n1 c1 m1) rfl rfl 39 DZ HZ0.out (HID.out _ _ _ _ _) rfl (HDO.out _ _ _ _ _) ?_
          have hfx4 := Fr.row1 wx3 pA (dval d s1 n1 c1 m1)
          replace HO0 := Lib.hid (DV.past HO0.out HOK.out hfx4 HZ0.out DZ_no)
          replace HZ1 := Lib.hid ((show Bk (wx3.setRow pA (dval d s1 n1 c1 m1)) pB DZ 39 from ArrKit.Bk.rowOther HZ1.out _ (HPQ.out.symm)))
          replace HO1 := Lib.hid (DV.past HO1.out HOK.out hfx4 HZ0.out DZ_no)
          have HX0' : Hid (Bk (wx3.setRow pA (dval d s1 n1 c1 m1)) pA (dval d s1 n1 c1 m1) 39) := Lib.hid (ArrKit.Bk.row HZ0.out _)
          clear HZ0
          have HZ0 := HX0'
          clear HX0'
          refine hK.out _ _ (ArrKit.Fr.row hHeld4 _ _ (.inl HLO0.out)) (fun hHeld5 => ?_)
          clear hK K hHeld4
          clear hfx4
          generalize (wx3.setRow pA (dval d s1 n1 c1 m1)) = wx4 at *
          change wpAnyH _ _ _ _ _ 1 #[true, true, true, true, true, true, true, false] _ _
          refine wpAnyH_ready (rs := [7]) (by kernel_rfl) (by simp) ?_
          refine AllReadyH.cons rfl (fun K hK => ?_) AllReadyH.nil
          simp only [zA, zB, zC]
          refine (if_pos (by kernel_rfl)).mpr ?_
          refine wp_store_row 39 _ _ rfl pB (dval d s2 n2 c2 m2) rfl rfl 39 DZ HZ1.out (HID.out _ _ _ _ _) rfl (HDO.out _ _ _ _ _) ?_
          have hfx5 := Fr.row1 wx4 pB (dval d s2 n2 c2 m2)
          replace HO0 := Lib.hid (DV.past HO0.out HOK.out hfx5 HZ1.out DZ_no)
          replace HZ0 := Lib.hid ((show Bk (wx4.setRow pB (dval d s2 n2 c2 m2)) pA (dval d s1 n1 c1 m1) 39 from ArrKit.Bk.rowOther HZ0.out _ (HPQ.out)))
          replace HO1 := Lib.hid (DV.past HO1.out HOK.out hfx5 HZ1.out DZ_no)
          have HX1' : Hid (Bk (wx4.setRow pB (dval d s2 n2 c2 m2)) pB (dval d s2 n2 c2 m2) 39) := Lib.hid (ArrKit.Bk.row HZ1.out _)
          clear HZ1
          have HZ1 := HX1'
          clear HX1'
          refine hK.out _ _ (ArrKit.Fr.row hHeld5 _ _ (.inl HLO1.out)) (fun hHeld6 => ?_)
          clear hK K hHeld5
          clear hfx5
          generalize (wx4.setRow pB (dval d s2 n2 c2 m2)) = wx5 at *
          change wpAnyH _ _ _ _ _ 0 #[true, true, true, true, true, true, true, true] _ _
          refine wpAnyH_done (by kernel_rfl) ?_ _
          refine NoPanic.normal ?_
          have HEND := Lib.hid hHeld6
          clear hHeld6
          exact HREST.out wx5 pA pB s1 n1 c1 m1 s2 n2 c2 m2 HEND.out ⟨HZ0.out, HO0.out⟩ ⟨HZ1.out, HO1.out⟩ HPQ.out HLO0.out HLO1.out
      · simp only [zA, zB, zC]
        refine (if_pos (by kernel_rfl)).mpr ?_
        go_wp2_with fail
        have hfx1 : Fr (fun _ => False) wx0 (wx0.alloc (.cells DZ 39)) := Fr.alloc (Fr.refl _ _) _
        have HLO1 : Hid (w2.heap.size ≤ wx0.heap.size) := Lib.hid (Fr.size hHeld1)
        replace HO0 := Lib.hid (DV.keep HO0.out hfx1)
        have HZ1 : Hid (Bk (wx0.alloc (.cells DZ 39)) wx0.heap.size DZ 39) := Lib.hid (Bk.new wx0 _)
        have HB1 : Hid (wx0.heap.size < (wx0.alloc (.cells DZ 39)).heap.size) := Lib.hid (Bk.lt HZ1.out)
        refine hK.out _ _ (hHeld1.then0 hfx1) (fun hHeld2 => ?_)
        clear hK K hHeld1
        clear hfx1
        generalize wx0.heap.size = pB at *
        generalize (wx0.alloc (.cells DZ 39)) = wx1 at *
        change wpAnyH _ _ _ _ _ 4 #[true, true, true, false, false, true, false, false] _ _
        refine wpAnyH_ready (rs := [3, 4]) (by kernel_rfl) (by simp) ?_
        refine AllReadyH.cons rfl (fun K hK => ?_) (AllReadyH.cons rfl (fun K hK => ?_) (AllReadyH.nil))
        · simp only [zA, zB, zC]
          refine (if_pos (by kernel_rfl)).mpr ?_
          go_wp2_with fail
          refine (HDC.out _ (HF2.out.then0 hHeld2)).mono ?_
          rintro e wx2 ⟨s2, n2, c2, m2, rfl, hown1, hfx2⟩
          dsimp only
          replace HO0 := Lib.hid (DV.keep HO0.out hfx2)
          replace HZ1 := Lib.hid (hfx2.keep HZ1.out (fun h => h))
          have HO1 := Lib.hid hown1
          clear hown1
          replace HB1 : Hid (pB < wx2.heap.size) := Lib.hid (Bk.lt HZ1.out)
          refine hK.out _ _ (hHeld2.then0 hfx2) (fun hHeld3 => ?_)
          clear hK K hHeld2
          clear hfx2
          change wpAnyH _ _ _ _ _ 3 #[true, true, true, true, false, true, false, false] _ _
          refine wpAnyH_ready (rs := [4]) (by kernel_rfl) (by simp) ?_
          refine AllReadyH.cons rfl (fun K hK => ?_) AllReadyH.nil
          simp only [zA, zB, zC]
          refine (if_pos (by kernel_rfl)).mpr ?_
          go_wp2_with fail
          have hfx3 : Fr (fun _ => False) wx2 (wx2.alloc (.cells DZ 39)) := Fr.alloc (Fr.refl _ _) _
          have HLO0 : Hid (w2.heap.size ≤ wx2.heap.size) := Lib.hid (Fr.size hHeld3)
          have HPQ : Hid (wx2.heap.size ≠ pB) := Lib.hid (by have h1 := Bk.lt HZ1.out; omega)
          replace HO0 := Lib.hid (DV.keep HO0.out hfx3)
          replace HZ1 := Lib.hid (hfx3.keep HZ1.out (fun h => h))
          replace HO1 := Lib.hid (DV.keep HO1.out hfx3)
          have HZ0 : Hid (Bk (wx2.alloc (.cells DZ 39)) wx2.heap.size DZ 39) := Lib.hid (Bk.new wx2 _)
          have HB0 : Hid (wx2.heap.size < (wx2.alloc (.cells DZ 39)).heap.size) := Lib.hid (Bk.lt HZ0.out)
          replace HB1 : Hid (pB < (wx2.alloc (.cells DZ 39)).heap.size) := Lib.hid (Bk.lt HZ1.out)
          refine hK.out _ _ (hHeld3.then0 hfx3) (fun hHeld4 => ?_)
          clear hK K hHeld3
          clear hfx3
          generalize wx2.heap.size = pA at *
          generalize (wx2.alloc (.cells DZ 39)) = wx3 at *
          change wpAnyH _ _ _ _ _ 2 #[true, true, true, true, true, true, false, false] _ _
          refine wpAnyH_ready (rs := [6]) (by kernel_rfl) (by simp) ?_
          refine AllReadyH.cons rfl (fun K hK => ?_) AllReadyH.nil
          simp only [zA, zB, zC]
          refine (if_pos (by kernel_rfl)).mpr ?_
          refine wp_store_row 39 _ _ rfl pA (dval d s1 n1 c1 m1) rfl rfl 39 DZ HZ0.out (HID.out _ _ _ _ _) rfl (HDO.out _ _ _ _ _) ?_
          have hfx4 := Fr.row1 wx3 pA (dval d s1 n1 c1 m1)
          replace HO0 := Lib.hid (DV.past HO0.out HOK.out hfx4 HZ0.out DZ_no)
          replace HZ1 := Lib.hid ((show Bk (wx3.setRow pA (dval d s1 n1 c1 m1)) pB DZ 39 from ArrKit.Bk.rowOther HZ1.out _ (HPQ.out.symm)))
          replace HO1 := Lib.hid (DV.past HO1.out HOK.out hfx4 HZ0.out DZ_no)
          have HX0' : Hid (Bk (wx3.setRow pA (dval d s1 n1 c1 m1)) pA (dval d s1 n1 c1 m1) 39) := Lib.hid (ArrKit.Bk.row HZ0.out _)
          clear HZ0
          have HZ0 := HX0'
          clear HX0'
          refine hK.out _ _ (ArrKit.Fr.row hHeld4 _ _ (.inl HLO0.out)) (fun hHeld5 => ?_)
          clear hK K hHeld4
          clear hfx4
          generalize (wx3.setRow pA (dval d s1 n1 c1 m1)) = wx4 at *
          change wpAnyH _ _ _ _ _ 1 #[true, true, true, true, true, true, true, false] _ _
          refine wpAnyH_ready (rs := [7]) (by kernel_rfl) (by simp) ?_
          refine AllReadyH.cons rfl (fun K hK => ?_) AllReadyH.nil
          simp only [zA, zB, zC]
          refine (if_pos (by kernel_rfl)).mpr ?_
          refine wp_store_row 39 _ _ rfl pB (dval d s2 n2 c2 m2) rfl rfl 39 DZ HZ1.out (HID.out _ _ _ _ _) rfl (HDO.out _ _ _ _ _) ?_
          have hfx5 := Fr.row1 wx4 pB (dval d s2 n2 c2 m2)
          replace HO0 := Lib.hid (DV.past HO0.out HOK.out hfx5 HZ1.out DZ_no)
          replace HO1 := Lib.hid (DV.past HO1.out HOK.out hfx5 HZ1.out DZ_no)
          replace HZ0 := Lib.hid ((show Bk (wx4.setRow pB (dval d s2 n2 c2 m2)) pA (dval d s1 n1 c1 m1) 39 from ArrKit.Bk.rowOther HZ0.out _ (HPQ.out)))
          have HX1' : Hid (Bk (wx4.setRow pB (dval d s2 n2 c2 m2)) pB (dval d s2 n2 c2 m2) 39) := Lib.hid (ArrKit.Bk.row HZ1.out _)
          clear HZ1
          have HZ1 := HX1'
          clear HX1'
          refine hK.out _ _ (ArrKit.Fr.row hHeld5 _ _ (.inl HLO1.out)) (fun hHeld6 => ?_)
          clear hK K hHeld5
          clear hfx5
          generalize (wx4.setRow pB (dval d s2 n2 c2 m2)) = wx5 at *
          change wpAnyH _ _ _ _ _ 0 #[true, true, true, true, true, true, true, true] _ _
          refine wpAnyH_done (by kernel_rfl) ?_ _
          refine NoPanic.normal ?_
          have HEND := Lib.hid hHeld6
          clear hHeld6
          exact HREST.out wx5 pA pB s1 n1 c1 m1 s2 n2 c2 m2 HEND.out ⟨HZ0.out, HO0.out⟩ ⟨HZ1.out, HO1.out⟩ HPQ.out HLO0.out HLO1.out
        · simp only [zA, zB, zC]
          refine (if_pos (by kernel_rfl)).mpr ?_
          go_wp2_with fail
          have hfx2 : Fr (fun _ => False) wx1 (wx1.alloc (.cells DZ 39)) := Fr.alloc (Fr.refl _ _) _
          have HLO0 : Hid (w2.heap.size ≤ wx1.heap.size) := Lib.hid (Fr.size hHeld2)
          have HPQ : Hid (wx1.heap.size ≠ pB) := Lib.hid (by have h1 := Bk.lt HZ1.out; omega)
          replace HO0 := Lib.hid (DV.keep HO0.out hfx2)
          replace HZ1 := Lib.hid (hfx2.keep HZ1.out (fun h => h))
          have HZ0 : Hid (Bk (wx1.alloc (.cells DZ 39)) wx1.heap.size DZ 39) := Lib.hid (Bk.new wx1 _)
          have HB0 : Hid (wx1.heap.size < (wx1.alloc (.cells DZ 39)).heap.size) := Lib.hid (Bk.lt HZ0.out)
          replace HB1 : Hid (pB < (wx1.alloc (.cells DZ 39)).heap.size) := Lib.hid (Bk.lt HZ1.out)
          refine hK.out _ _ (hHeld2.then0 hfx2) (fun hHeld3 => ?_)
          clear hK K hHeld2
          clear hfx2
          generalize wx1.heap.size = pA at *
          generalize (wx1.alloc (.cells DZ 39)) = wx2 at *
          change wpAnyH _ _ _ _ _ 3 #[true, true, true, false, true, true, false, false] _ _
          refine wpAnyH_ready (rs := [3]) (by kernel_rfl) (by simp) ?_
          refine AllReadyH.cons rfl (fun K hK => ?_) AllReadyH.nil
          simp only [zA, zB, zC]
          refine (if_pos (by kernel_rfl)).mpr ?_
          go_wp2_with fail
          refine (HDC.out _ (HF2.out.then0 hHeld3)).mono ?_
          rintro e wx3 ⟨s2, n2, c2, m2, rfl, hown1, hfx3⟩
          dsimp only
          replace HO0 := Lib.hid (DV.keep HO0.out hfx3)
          replace HZ1 := Lib.hid (hfx3.keep HZ1.out (fun h => h))
          replace HZ0 := Lib.hid (hfx3.keep HZ0.out (fun h => h))
          have HO1 := Lib.hid hown1
          clear hown1
          replace HB0 : Hid (pA < wx3.heap.size) := Lib.hid (Bk.lt HZ0.out)
          replace HB1 : Hid (pB < wx3.heap.size) := Lib.hid (Bk.lt HZ1.out)
          refine hK.out _ _ (hHeld3.then0 hfx3) (fun hHeld4 => ?_)
          clear hK K hHeld3
          clear hfx3
          change wpAnyH _ _ _ _ _ 2 #[true, true, true, true, true, true, false, false] _ _
          refine wpAnyH_ready (rs := [6]) (by kernel_rfl) (by simp) ?_
          refine AllReadyH.cons rfl (fun K hK => ?_) AllReadyH.nil
          simp only [zA, zB, zC]
          refine (if_pos (by kernel_rfl)).mpr ?_
          refine wp_store_row 39 _ _ rfl pA (dval d s1 n1 c1 m1) rfl rfl 39 DZ HZ0.out (HID.out _ _ _ _ _) rfl (HDO.out _ _ _ _ _) ?_
          have hfx4 := Fr.row1 wx3 pA (dval d s1 n1 c1 m1)
          replace HO0 := Lib.hid (DV.past HO0.out HOK.out hfx4 HZ0.out DZ_no)
          replace HZ1 := Lib.hid ((show Bk (wx3.setRow pA (dval d s1 n1 c1 m1)) pB DZ 39 from ArrKit.Bk.rowOther HZ1.out _ (HPQ.out.symm)))
          replace HO1 := Lib.hid (DV.past HO1.out HOK.out hfx4 HZ0.out DZ_no)
          have HX0' : Hid (Bk (wx3.setRow pA (dval d s1 n1 c1 m1)) pA (dval d s1 n1 c1 m1) 39) := Lib.hid (ArrKit.Bk.row HZ0.out _)
          clear HZ0
          have HZ0 := HX0'
          clear HX0'
          refine hK.out _ _ (ArrKit.Fr.row hHeld4 _ _ (.inl HLO0.out)) (fun hHeld5 => ?_)
          clear hK K hHeld4
          clear hfx4
          generalize (wx3.setRow pA (dval d s1 n1 c1 m1)) = wx4 at *
          change wpAnyH _ _ _ _ _ 1 #[true, true, true, true, true, true, true, false] _ _
          refine wpAnyH_ready (rs := [7]) (by kernel_rfl) (by simp) ?_
          refine AllReadyH.cons rfl (fun K hK => ?_) AllReadyH.nil
          simp only [zA, zB, zC]
          refine (if_pos (by kernel_rfl)).mpr ?_
          refine wp_store_row 39 _ _ rfl pB (dval d s2 n2 c2 m2) rfl rfl 39 DZ HZ1.out (HID.out _ _ _ _ _) rfl (HDO.out _ _ _ _ _) ?_
          have hfx5 := Fr.row1 wx4 pB (dval d s2 n2 c2 m2)
          replace HO0 := Lib.hid (DV.past HO0.out HOK.out hfx5 HZ1.out DZ_no)
          replace HZ0 := Lib.hid ((show Bk (wx4.setRow pB (dval d s2 n2 c2 m2)) pA (dval d s1 n1 c1 m1) 39 from ArrKit.Bk.rowOther HZ0.out _ (HPQ.out)))
          replace HO1 := Lib.hid (DV.past HO1.out HOK.out hfx5 HZ1.out DZ_no)
          have HX1' : Hid (Bk (wx4.setRow pB (dval d s2 n2 c2 m2)) pB (dval d s2 n2 c2 m2) 39) := Lib.hid (ArrKit.Bk.row HZ1.out _)
          clear HZ1
          have HZ1 := HX1'
          clear HX1'
          refine hK.out _ _ (ArrKit.Fr.row hHeld5 _ _ (.inl HLO1.out)) (fun hHeld6 => ?_)
          clear hK K hHeld5
          clear hfx5
          generalize (wx4.setRow pB (dval d s2 n2 c2 m2)) = wx5 at *
          change wpAnyH _ _ _ _ _ 0 #[true, true, true, true, true, true, true, true] _ _
          refine wpAnyH_done (by kernel_rfl) ?_ _
          refine NoPanic.normal ?_
          have HEND := Lib.hid hHeld6
          clear hHeld6
          exact HREST.out wx5 pA pB s1 n1 c1 m1 s2 n2 c2 m2 HEND.out ⟨HZ0.out, HO0.out⟩ ⟨HZ1.out, HO1.out⟩ HPQ.out HLO0.out HLO1.out
    · simp only [zA, zB, zC]
      refine (if_pos (by kernel_rfl)).mpr ?_
      go_wp2_with fail
      have hfx0 : Fr (fun _ => False) wd (wd.alloc (.cells DZ 39)) := Fr.alloc (Fr.refl _ _) _
      have HLO0 : Hid (w2.heap.size ≤ wd.heap.size) := Lib.hid (Fr.size hHeld0)
      have HZ0 : Hid (Bk (wd.alloc (.cells DZ 39)) wd.heap.size DZ 39) := Lib.hid (Bk.new wd _)
      have HB0 : Hid (wd.heap.size < (wd.alloc (.cells DZ 39)).heap.size) := Lib.hid (Bk.lt HZ0.out)
      refine hK.out _ _ (hHeld0.then0 hfx0) (fun hHeld1 => ?_)
      clear hK K hHeld0
      clear hfx0
      generalize wd.heap.size = pA at *
      generalize (wd.alloc (.cells DZ 39)) = wx0 at *
      change wpAnyH _ _ _ _ _ 5 #[true, false, true, false, true, false, false, false] _ _
      refine wpAnyH_ready (rs := [1, 5]) (by kernel_rfl) (by simp) ?_
      refine AllReadyH.cons rfl (fun K hK => ?_) (AllReadyH.cons rfl (fun K hK => ?_) (AllReadyH.nil))
      · simp only [zA, zB, zC]
        refine (if_pos (by kernel_rfl)).mpr ?_
        go_wp2_with fail
        refine (HDC.out _ (HF2.out.then0 hHeld1)).mono ?_
        rintro e wx1 ⟨s1, n1, c1, m1, rfl, hown0, hfx1⟩
        dsimp only
        replace HZ0 := Lib.hid (hfx1.keep HZ0.out (fun h => h))
        have HO0 := Lib.hid hown0
        clear hown0
        replace HB0 : Hid (pA < wx1.heap.size) := Lib.hid (Bk.lt HZ0.out)
        refine hK.out _ _ (hHeld1.then0 hfx1) (fun hHeld2 => ?_)
        clear hK K hHeld1
        clear hfx1
        change wpAnyH _ _ _ _ _ 4 #[true, true, true, false, true, false, false, false] _ _
        refine wpAnyH_ready (rs := [3, 5]) (by kernel_rfl) (by simp) ?_
        refine AllReadyH.cons rfl (fun K hK => ?_) (AllReadyH.cons rfl (fun K hK => ?_) (AllReadyH.nil))
        · simp only [zA, zB, zC]
          refine (if_pos (by kernel_rfl)).mpr ?_
          go_wp2_with fail
          refine (HDC.out _ (HF2.out.then0 hHeld2)).mono ?_
          rintro e wx2 ⟨s2, n2, c2, m2, rfl, hown1, hfx2⟩
          dsimp only
          replace HZ0 := Lib.hid (hfx2.keep HZ0.out (fun h => h))
          replace HO0 := Lib.hid (DV.keep HO0.out hfx2)
          have HO1 := Lib.hid hown1
          clear hown1
          replace HB0 : Hid (pA < wx2.heap.size) := Lib.hid (Bk.lt HZ0.out)
          refine hK.out _ _ (hHeld2.then0 hfx2) (fun hHeld3 => ?_)
          clear hK K hHeld2
          clear hfx2
          change wpAnyH _ _ _ _ _ 3 #[true, true, true, true, true, false, false, false] _ _
          refine wpAnyH_ready (rs := [5]) (by kernel_rfl) (by simp) ?_
          refine AllReadyH.cons rfl (fun K hK => ?_) AllReadyH.nil
          simp only [zA, zB, zC]
          refine (if_pos (by kernel_rfl)).mpr ?_
          go_wp2_with fail
          have hfx3 : Fr (fun _ => False) wx2 (wx2.alloc (.cells DZ 39)) := Fr.alloc (Fr.refl _ _) _
          have HLO1 : Hid (w2.heap.size ≤ wx2.heap.size) := Lib.hid (Fr.size hHeld3)
          have HPQ : Hid (pA ≠ wx2.heap.size) := Lib.hid (by have h1 := Bk.lt HZ0.out; omega)
          replace HZ0 := Lib.hid (hfx3.keep HZ0.out (fun h => h))
          replace HO0 := Lib.hid (DV.keep HO0.out hfx3)
          replace HO1 := Lib.hid (DV.keep HO1.out hfx3)
          have HZ1 : Hid (Bk (wx2.alloc (.cells DZ 39)) wx2.heap.size DZ 39) := Lib.hid (Bk.new wx2 _)
          have HB1 : Hid (wx2.heap.size < (wx2.alloc (.cells DZ 39)).heap.size) := Lib.hid (Bk.lt HZ1.out)
          replace HB0 : Hid (pA < (wx2.alloc (.cells DZ 39)).heap.size) := Lib.hid (Bk.lt HZ0.out)
          refine hK.out _ _ (hHeld3.then0 hfx3) (fun hHeld4 => ?_)
          clear hK K hHeld3
          clear hfx3
          generalize wx2.heap.size = pB at *
          generalize (wx2.alloc (.cells DZ 39)) = wx3 at *
          change wpAnyH _ _ _ _ _ 2 #[true, true, true, true, true, true, false, false] _ _
          refine wpAnyH_ready (rs := [6]) (by kernel_rfl) (by simp) ?_
          refine AllReadyH.cons rfl (fun K hK => ?_) AllReadyH.nil
          simp only [zA, zB, zC]
          refine (if_pos (by kernel_rfl)).mpr ?_
          refine wp_store_row 39 _ _ rfl pA (dval d s1 n1 c1 m1) rfl rfl 39 DZ HZ0.out (HID.out _ _ _ _ _) rfl (HDO.out _ _ _ _ _) ?_
          have hfx4 := Fr.row1 wx3 pA (dval d s1 n1 c1 m1)
          replace HO0 := Lib.hid (DV.past HO0.out HOK.out hfx4 HZ0.out DZ_no)
          replace HO1 := Lib.hid (DV.past HO1.out HOK.out hfx4 HZ0.out DZ_no)
          replace HZ1 := Lib.hid ((show Bk (wx3.setRow pA (dval d s1 n1 c1 m1)) pB DZ 39 from ArrKit.Bk.rowOther HZ1.out _ (HPQ.out.symm)))
          have HX0' : Hid (Bk (wx3.setRow pA (dval d s1 n1 c1 m1)) pA (dval d s1 n1 c1 m1) 39) := Lib.hid (ArrKit.Bk.row HZ0.out _)
          clear HZ0
          have HZ0 := HX0'
          clear HX0'
          refine hK.out _ _ (ArrKit.Fr.row hHeld4 _ _ (.inl HLO0.out)) (fun hHeld5 => ?_)
          clear hK K hHeld4
          clear hfx4
          generalize (wx3.setRow pA (dval d s1 n1 c1 m1)) = wx4 at *
          change wpAnyH _ _ _ _ _ 1 #[true, true, true, true, true, true, true, false] _ _
          refine wpAnyH_ready (rs := [7]) (by kernel_rfl) (by simp) ?_
          refine AllReadyH.cons rfl (fun K hK => ?_) AllReadyH.nil
          simp only [zA, zB, zC]
          refine (if_pos (by kernel_rfl)).mpr ?_
          refine wp_store_row 39 _ _ rfl pB (dval d s2 n2 c2 m2) rfl rfl 39 DZ HZ1.out (HID.out _ _ _ _ _) rfl (HDO.out _ _ _ _ _) ?_
          have hfx5 := Fr.row1 wx4 pB (dval d s2 n2 c2 m2)
          replace HZ0 := Lib.hid ((show Bk (wx4.setRow pB (dval d s2 n2 c2 m2)) pA (dval d s1 n1 c1 m1) 39 from ArrKit.Bk.rowOther HZ0.out _ (HPQ.out)))
          replace HO0 := Lib.hid (DV.past HO0.out HOK.out hfx5 HZ1.out DZ_no)
          replace HO1 := Lib.hid (DV.past HO1.out HOK.out hfx5 HZ1.out DZ_no)
          have HX1' : Hid (Bk (wx4.setRow pB (dval d s2 n2 c2 m2)) pB (dval d s2 n2 c2 m2) 39) := Lib.hid (ArrKit.Bk.row HZ1.out _)
          clear HZ1
          have HZ1 := HX1'
          clear HX1'
          refine hK.out _ _ (ArrKit.Fr.row hHeld5 _ _ (.inl HLO1.out)) (fun hHeld6 => ?_)
          clear hK K hHeld5
          clear hfx5
          generalize (wx4.setRow pB (dval d s2 n2 c2 m2)) = wx5 at *
          change wpAnyH _ _ _ _ _ 0 #[true, true, true, true, true, true, true, true] _ _
          refine wpAnyH_done (by kernel_rfl) ?_ _
          refine NoPanic.normal ?_
          have HEND := Lib.hid hHeld6
          clear hHeld6
          exact HREST.out wx5 pA pB s1 n1 c1 m1 s2 n2 c2 m2 HEND.out ⟨HZ0.out, HO0.out⟩ ⟨HZ1.out, HO1.out⟩ HPQ.out HLO0.out HLO1.out
        · simp only [zA, zB, zC]
          refine (if_pos (by kernel_rfl)).mpr ?_
          go_wp2_with fail
          have hfx2 : Fr (fun _ => False) wx1 (wx1.alloc (.cells DZ 39)) := Fr.alloc (Fr.refl _ _) _
          have HLO1 : Hid (w2.heap.size ≤ wx1.heap.size) := Lib.hid (Fr.size hHeld2)
          have HPQ : Hid (pA ≠ wx1.heap.size) := Lib.hid (by have h1 := Bk.lt HZ0.out; omega)
          replace HZ0 := Lib.hid (hfx2.keep HZ0.out (fun h => h))
          replace HO0 := Lib.hid (DV.keep HO0.out hfx2)
          have HZ1 : Hid (Bk (wx1.alloc (.cells DZ 39)) wx1.heap.size DZ 39) := Lib.hid (Bk.new wx1 _)
          have HB1 : Hid (wx1.heap.size < (wx1.alloc (.cells DZ 39)).heap.size) := Lib.hid (Bk.lt HZ1.out)
          replace HB0 : Hid (pA < (wx1.alloc (.cells DZ 39)).heap.size) := Lib.hid (Bk.lt HZ0.out)
          refine hK.out _ _ (hHeld2.then0 hfx2) (fun hHeld3 => ?_)
          clear hK K hHeld2
          clear hfx2
          generalize wx1.heap.size = pB at *
          generalize (wx1.alloc (.cells DZ 39)) = wx2 at *
          change wpAnyH _ _ _ _ _ 3 #[true, true, true, false, true, true, false, false] _ _
          refine wpAnyH_ready (rs := [3]) (by kernel_rfl) (by simp) ?_
          refine AllReadyH.cons rfl (fun K hK => ?_) AllReadyH.nil
          simp only [zA, zB, zC]
          refine (if_pos (by kernel_rfl)).mpr ?_
          go_wp2_with fail
          refine (HDC.out _ (HF2.out.then0 hHeld3)).mono ?_
          rintro e wx3 ⟨s2, n2, c2, m2, rfl, hown1, hfx3⟩
          dsimp only
          replace HZ0 := Lib.hid (hfx3.keep HZ0.out (fun h => h))
          replace HO0 := Lib.hid (DV.keep HO0.out hfx3)
          replace HZ1 := Lib.hid (hfx3.keep HZ1.out (fun h => h))
          have HO1 := Lib.hid hown1
          clear hown1
          replace HB0 : Hid (pA < wx3.heap.size) := Lib.hid (Bk.lt HZ0.out)
          replace HB1 : Hid (pB < wx3.heap.size) := Lib.hid (Bk.lt HZ1.out)
          refine hK.out _ _ (hHeld3.then0 hfx3) (fun hHeld4 => ?_)
          clear hK K hHeld3
          clear hfx3
          change wpAnyH _ _ _ _ _ 2 #[true, true, true, true, true, true, false, false] _ _
          refine wpAnyH_ready (rs := [6]) (by kernel_rfl) (by simp) ?_
          refine AllReadyH.cons rfl (fun K hK => ?_) AllReadyH.nil
          simp only [zA, zB, zC]
          refine (if_pos (by kernel_rfl)).mpr ?_
          refine wp_store_row 39 _ _ rfl pA (dval d s1 n1 c1 m1) rfl rfl 39 DZ HZ0.out (HID.out _ _ _ _ _) rfl (HDO.out _ _ _ _ _) ?_
          have hfx4 := Fr.row1 wx3 pA (dval d s1 n1 c1 m1)
          replace HO0 := Lib.hid (DV.past HO0.out HOK.out hfx4 HZ0.out DZ_no)
          replace HZ1 := Lib.hid ((show Bk (wx3.setRow pA (dval d s1 n1 c1 m1)) pB DZ 39 from ArrKit.Bk.rowOther HZ1.out _ (HPQ.out.symm)))
          replace HO1 := Lib.hid (DV.past HO1.out HOK.out hfx4 HZ0.out DZ_no)
          have HX0' : Hid (Bk (wx3.setRow pA (dval d s1 n1 c1 m1)) pA (dval d s1 n1 c1 m1) 39) := Lib.hid (ArrKit.Bk.row HZ0.out _)
          clear HZ0
          have HZ0 := HX0'
          clear HX0'
          refine hK.out _ _ (ArrKit.Fr.row hHeld4 _ _ (.inl HLO0.out)) (fun hHeld5 => ?_)
          clear hK K hHeld4
          clear hfx4
          generalize (wx3.setRow pA (dval d s1 n1 c1 m1)) = wx4 at *
          change wpAnyH _ _ _ _ _ 1 #[true, true, true, true, true, true, true, false] _ _
          refine wpAnyH_ready (rs := [7]) (by kernel_rfl) (by simp) ?_
          refine AllReadyH.cons rfl (fun K hK => ?_) AllReadyH.nil
          simp only [zA, zB, zC]
          refine (if_pos (by kernel_rfl)).mpr ?_
          refine wp_store_row 39 _ _ rfl pB (dval d s2 n2 c2 m2) rfl rfl 39 DZ HZ1.out (HID.out _ _ _ _ _) rfl (HDO.out _ _ _ _ _) ?_
          have hfx5 := Fr.row1 wx4 pB (dval d s2 n2 c2 m2)
          replace HZ0 := Lib.hid ((show Bk (wx4.setRow pB (dval d s2 n2 c2 m2)) pA (dval d s1 n1 c1 m1) 39 from ArrKit.Bk.rowOther HZ0.out _ (HPQ.out)))
          replace HO0 := Lib.hid (DV.past HO0.out HOK.out hfx5 HZ1.out DZ_no)
          replace HO1 := Lib.hid (DV.past HO1.out HOK.out hfx5 HZ1.out DZ_no)
          have HX1' : Hid (Bk (wx4.setRow pB (dval d s2 n2 c2 m2)) pB (dval d s2 n2 c2 m2) 39) := Lib.hid (ArrKit.Bk.row HZ1.out _)
          clear HZ1
          have HZ1 := HX1'
          clear HX1'
          refine hK.out _ _ (ArrKit.Fr.row hHeld5 _ _ (.inl HLO1.out)) (fun hHeld6 => ?_)
          clear hK K hHeld5
          clear hfx5
          generalize (wx4.setRow pB (dval d s2 n2 c2 m2)) = wx5 at *
          change wpAnyH _ _ _ _ _ 0 #[true, true, true, true, true, true, true, true] _ _
          refine wpAnyH_done (by kernel_rfl) ?_ _
          refine NoPanic.normal ?_
          have HEND := Lib.hid hHeld6
          clear hHeld6
          exact HREST.out wx5 pA pB s1 n1 c1 m1 s2 n2 c2 m2 HEND.out ⟨HZ0.out, HO0.out⟩ ⟨HZ1.out, HO1.out⟩ HPQ.out HLO0.out HLO1.out
      · simp only [zA, zB, zC]
        refine (if_pos (by kernel_rfl)).mpr ?_
        go_wp2_with fail
        have hfx1 : Fr (fun _ => False) wx0 (wx0.alloc (.cells DZ 39)) := Fr.alloc (Fr.refl _ _) _
        have HLO1 : Hid (w2.heap.size ≤ wx0.heap.size) := Lib.hid (Fr.size hHeld1)
        have HPQ : Hid (pA ≠ wx0.heap.size) := Lib.hid (by have h1 := Bk.lt HZ0.out; omega)
        replace HZ0 := Lib.hid (hfx1.keep HZ0.out (fun h => h))
        have HZ1 : Hid (Bk (wx0.alloc (.cells DZ 39)) wx0.heap.size DZ 39) := Lib.hid (Bk.new wx0 _)
        have HB1 : Hid (wx0.heap.size < (wx0.alloc (.cells DZ 39)).heap.size) := Lib.hid (Bk.lt HZ1.out)
        replace HB0 : Hid (pA < (wx0.alloc (.cells DZ 39)).heap.size) := Lib.hid (Bk.lt HZ0.out)
        refine hK.out _ _ (hHeld1.then0 hfx1) (fun hHeld2 => ?_)
        clear hK K hHeld1
        clear hfx1
        generalize wx0.heap.size = pB at *
        generalize (wx0.alloc (.cells DZ 39)) = wx1 at *
        change wpAnyH _ _ _ _ _ 4 #[true, false, true, false, true, true, false, false] _ _
        refine wpAnyH_ready (rs := [1]) (by kernel_rfl) (by simp) ?_
        refine AllReadyH.cons rfl (fun K hK => ?_) AllReadyH.nil
        simp only [zA, zB, zC]
        refine (if_pos (by kernel_rfl)).mpr ?_
        go_wp2_with fail
        refine (HDC.out _ (HF2.out.then0 hHeld2)).mono ?_
        rintro e wx2 ⟨s1, n1, c1, m1, rfl, hown0, hfx2⟩
        dsimp only
        replace HZ0 := Lib.hid (hfx2.keep HZ0.out (fun h => h))
        replace HZ1 := Lib.hid (hfx2.keep HZ1.out (fun h => h))
        have HO0 := Lib.hid hown0
        clear hown0
        replace HB0 : Hid (pA < wx2.heap.size) := Lib.hid (Bk.lt HZ0.out)
        replace HB1 : Hid (pB < wx2.heap.size) := Lib.hid (Bk.lt HZ1.out)
        refine hK.out _ _ (hHeld2.then0 hfx2) (fun hHeld3 => ?_)
        clear hK K hHeld2
        clear hfx2
        change wpAnyH _ _ _ _ _ 3 #[true, true, true, false, true, true, false, false] _ _
        refine wpAnyH_ready (rs := [3]) (by kernel_rfl) (by simp) ?_
        refine AllReadyH.cons rfl (fun K hK => ?_) AllReadyH.nil
        simp only [zA, zB, zC]
        refine (if_pos (by kernel_rfl)).mpr ?_
        go_wp2_with fail
        refine (HDC.out _ (HF2.out.then0 hHeld3)).mono ?_
        rintro e wx3 ⟨s2, n2, c2, m2, rfl, hown1, hfx3⟩
        dsimp only
        replace HZ0 := Lib.hid (hfx3.keep HZ0.out (fun h => h))
        replace HZ1 := Lib.hid (hfx3.keep HZ1.out (fun h => h))
        replace HO0 := Lib.hid (DV.keep HO0.out hfx3)
        have HO1 := Lib.hid hown1
        clear hown1
        replace HB0 : Hid (pA < wx3.heap.size) := Lib.hid (Bk.lt HZ0.out)
        replace HB1 : Hid (pB < wx3.heap.size) := Lib.hid (Bk.lt HZ1.out)
        refine hK.out _ _ (hHeld3.then0 hfx3) (fun hHeld4 => ?_)
        clear hK K hHeld3
        clear hfx3
        change wpAnyH _ _ _ _ _ 2 #[true, true, true, true, true, true, false, false] _ _
        refine wpAnyH_ready (rs := [6]) (by kernel_rfl) (by simp) ?_
        refine AllReadyH.cons rfl (fun K hK => ?_) AllReadyH.nil
        simp only [zA, zB, zC]
        refine (if_pos (by kernel_rfl)).mpr ?_
        refine wp_store_row 39 _ _ rfl pA (dval d s1 n1 c1 m1) rfl rfl 39 DZ HZ0.out (HID.out _ _ _ _ _) rfl (HDO.out _ _ _ _ _) ?_
        have hfx4 := Fr.row1 wx3 pA (dval d s1 n1 c1 m1)
        replace HZ1 := Lib.hid ((show Bk (wx3.setRow pA (dval d s1 n1 c1 m1)) pB DZ 39 from ArrKit.Bk.rowOther HZ1.out _ (HPQ.out.symm)))
        replace HO0 := Lib.hid (DV.past HO0.out HOK.out hfx4 HZ0.out DZ_no)
        replace HO1 := Lib.hid (DV.past HO1.out HOK.out hfx4 HZ0.out DZ_no)
        have HX0' : Hid (Bk (wx3.setRow pA (dval d s1 n1 c1 m1)) pA (dval d s1 n1 c1 m1) 39) := Lib.hid (ArrKit.Bk.row HZ0.out _)
        clear HZ0
        have HZ0 := HX0'
        clear HX0'
        refine hK.out _ _ (ArrKit.Fr.row hHeld4 _ _ (.inl HLO0.out)) (fun hHeld5 => ?_)
        clear hK K hHeld4
        clear hfx4
        generalize (wx3.setRow pA (dval d s1 n1 c1 m1)) = wx4 at *
        change wpAnyH _ _ _ _ _ 1 #[true, true, true, true, true, true, true, false] _ _
        refine wpAnyH_ready (rs := [7]) (by kernel_rfl) (by simp) ?_
        refine AllReadyH.cons rfl (fun K hK => ?_) AllReadyH.nil
        simp only [zA, zB, zC]
        refine (if_pos (by kernel_rfl)).mpr ?_
        refine wp_store_row 39 _ _ rfl pB (dval d s2 n2 c2 m2) rfl rfl 39 DZ HZ1.out (HID.out _ _ _ _ _) rfl (HDO.out _ _ _ _ _) ?_
        have hfx5 := Fr.row1 wx4 pB (dval d s2 n2 c2 m2)
        replace HZ0 := Lib.hid ((show Bk (wx4.setRow pB (dval d s2 n2 c2 m2)) pA (dval d s1 n1 c1 m1) 39 from ArrKit.Bk.rowOther HZ0.out _ (HPQ.out)))
        replace HO0 := Lib.hid (DV.past HO0.out HOK.out hfx5 HZ1.out DZ_no)
        replace HO1 := Lib.hid (DV.past HO1.out HOK.out hfx5 HZ1.out DZ_no)
        have HX1' : Hid (Bk (wx4.setRow pB (dval d s2 n2 c2 m2)) pB (dval d s2 n2 c2 m2) 39) := Lib.hid (ArrKit.Bk.row HZ1.out _)
        clear HZ1
        have HZ1 := HX1'
        clear HX1'
        refine hK.out _ _ (ArrKit.Fr.row hHeld5 _ _ (.inl HLO1.out)) (fun hHeld6 => ?_)
        clear hK K hHeld5
        clear hfx5
        generalize (wx4.setRow pB (dval d s2 n2 c2 m2)) = wx5 at *
        change wpAnyH _ _ _ _ _ 0 #[true, true, true, true, true, true, true, true] _ _
        refine wpAnyH_done (by kernel_rfl) ?_ _
        refine NoPanic.normal ?_
        have HEND := Lib.hid hHeld6
        clear hHeld6
        exact HREST.out wx5 pA pB s1 n1 c1 m1 s2 n2 c2 m2 HEND.out ⟨HZ0.out, HO0.out⟩ ⟨HZ1.out, HO1.out⟩ HPQ.out HLO0.out HLO1.out
    · simp only [zA, zB, zC]
      refine (if_pos (by kernel_rfl)).mpr ?_
      go_wp2_with fail
      have hfx0 : Fr (fun _ => False) wd (wd.alloc (.cells DZ 39)) := Fr.alloc (Fr.refl _ _) _
      have HLO1 : Hid (w2.heap.size ≤ wd.heap.size) := Lib.hid (Fr.size hHeld0)
      have HZ1 : Hid (Bk (wd.alloc (.cells DZ 39)) wd.heap.size DZ 39) := Lib.hid (Bk.new wd _)
      have HB1 : Hid (wd.heap.size < (wd.alloc (.cells DZ 39)).heap.size) := Lib.hid (Bk.lt HZ1.out)
      refine hK.out _ _ (hHeld0.then0 hfx0) (fun hHeld1 => ?_)
      clear hK K hHeld0
      clear hfx0
      generalize wd.heap.size = pB at *
      generalize (wd.alloc (.cells DZ 39)) = wx0 at *
      change wpAnyH _ _ _ _ _ 5 #[true, false, true, false, false, true, false, false] _ _
      refine wpAnyH_ready (rs := [1, 4]) (by kernel_rfl) (by simp) ?_
      refine AllReadyH.cons rfl (fun K hK => ?_) (AllReadyH.cons rfl (fun K hK => ?_) (AllReadyH.nil))
      · simp only [zA, zB, zC]
        refine (if_pos (by kernel_rfl)).mpr ?_
        go_wp2_with fail
        refine (HDC.out _ (HF2.out.then0 hHeld1)).mono ?_
        rintro e wx1 ⟨s1, n1, c1, m1, rfl, hown0, hfx1⟩
        dsimp only
        replace HZ1 := Lib.hid (hfx1.keep HZ1.out (fun h => h))
        have HO0 := Lib.hid hown0
        clear hown0
        replace HB1 : Hid (pB < wx1.heap.size) := Lib.hid (Bk.lt HZ1.out)
        refine hK.out _ _ (hHeld1.then0 hfx1) (fun hHeld2 => ?_)
        clear hK K hHeld1
        clear hfx1
        change wpAnyH _ _ _ _ _ 4 #[true, true, true, false, false, true, false, false] _ _
        refine wpAnyH_ready (rs := [3, 4]) (by kernel_rfl) (by simp) ?_
        refine AllReadyH.cons rfl (fun K hK => ?_) (AllReadyH.cons rfl (fun K hK => ?_) (AllReadyH.nil))
        · simp only [zA, zB, zC]
          refine (if_pos (by kernel_rfl)).mpr ?_
          go_wp2_with fail
          refine (HDC.out _ (HF2.out.then0 hHeld2)).mono ?_
          rintro e wx2 ⟨s2, n2, c2, m2, rfl, hown1, hfx2⟩
          dsimp only
          replace HZ1 := Lib.hid (hfx2.keep HZ1.out (fun h => h))
          replace HO0 := Lib.hid (DV.keep HO0.out hfx2)
          have HO1 := Lib.hid hown1
          clear hown1
          replace HB1 : Hid (pB < wx2.heap.size) := Lib.hid (Bk.lt HZ1.out)
          refine hK.out _ _ (hHeld2.then0 hfx2) (fun hHeld3 => ?_)
          clear hK K hHeld2
          clear hfx2
          change wpAnyH _ _ _ _ _ 3 #[true, true, true, true, false, true, false, false] _ _
          refine wpAnyH_ready (rs := [4]) (by kernel_rfl) (by simp) ?_
          refine AllReadyH.cons rfl (fun K hK => ?_) AllReadyH.nil
          simp only [zA, zB, zC]
          refine (if_pos (by kernel_rfl)).mpr ?_
          go_wp2_with fail
          have hfx3 : Fr (fun _ => False) wx2 (wx2.alloc (.cells DZ 39)) := Fr.alloc (Fr.refl _ _) _
          have HLO0 : Hid (w2.heap.size ≤ wx2.heap.size) := Lib.hid (Fr.size hHeld3)
          have HPQ : Hid (wx2.heap.size ≠ pB) := Lib.hid (by have h1 := Bk.lt HZ1.out; omega)
          replace HZ1 := Lib.hid (hfx3.keep HZ1.out (fun h => h))
          replace HO0 := Lib.hid (DV.keep HO0.out hfx3)
          replace HO1 := Lib.hid (DV.keep HO1.out hfx3)
          have HZ0 : Hid (Bk (wx2.alloc (.cells DZ 39)) wx2.heap.size DZ 39) := Lib.hid (Bk.new wx2 _)
          have HB0 : Hid (wx2.heap.size < (wx2.alloc (.cells DZ 39)).heap.size) := Lib.hid (Bk.lt HZ0.out)
          replace HB1 : Hid (pB < (wx2.alloc (.cells DZ 39)).heap.size) := Lib.hid (Bk.lt HZ1.out)
          refine hK.out _ _ (hHeld3.then0 hfx3) (fun hHeld4 => ?_)
          clear hK K hHeld3
          clear hfx3
          generalize wx2.heap.size = pA at *
          generalize (wx2.alloc (.cells DZ 39)) = wx3 at *
          change wpAnyH _ _ _ _ _ 2 #[true, true, true, true, true, true, false, false] _ _
          refine wpAnyH_ready (rs := [6]) (by kernel_rfl) (by simp) ?_
          refine AllReadyH.cons rfl (fun K hK => ?_) AllReadyH.nil
          simp only [zA, zB, zC]
          refine (if_pos (by kernel_rfl)).mpr ?_
          refine wp_store_row 39 _ _ rfl pA (dval d s1 n1 c1 m1) rfl rfl 39 DZ HZ0.out (HID.out _ _ _ _ _) rfl (HDO.out _ _ _ _ _) ?_
          have hfx4 := Fr.row1 wx3 pA (dval d s1 n1 c1 m1)
          replace HZ1 := Lib.hid ((show Bk (wx3.setRow pA (dval d s1 n1 c1 m1)) pB DZ 39 from ArrKit.Bk.rowOther HZ1.out _ (HPQ.out.symm)))
          replace HO0 := Lib.hid (DV.past HO0.out HOK.out hfx4 HZ0.out DZ_no)
          replace HO1 := Lib.hid (DV.past HO1.out HOK.out hfx4 HZ0.out DZ_no)
          have HX0' : Hid (Bk (wx3.setRow pA (dval d s1 n1 c1 m1)) pA (dval d s1 n1 c1 m1) 39) := Lib.hid (ArrKit.Bk.row HZ0.out _)
          clear HZ0
          have HZ0 := HX0'
          clear HX0'
          refine hK.out _ _ (ArrKit.Fr.row hHeld4 _ _ (.inl HLO0.out)) (fun hHeld5 => ?_)
          clear hK K hHeld4
          clear hfx4
          generalize (wx3.setRow pA (dval d s1 n1 c1 m1)) = wx4 at *
          change wpAnyH _ _ _ _ _ 1 #[true, true, true, true, true, true, true, false] _ _
          refine wpAnyH_ready (rs := [7]) (by kernel_rfl) (by simp) ?_
          refine AllReadyH.cons rfl (fun K hK => ?_) AllReadyH.nil
          simp only [zA, zB, zC]
          refine (if_pos (by kernel_rfl)).mpr ?_
          refine wp_store_row 39 _ _ rfl pB (dval d s2 n2 c2 m2) rfl rfl 39 DZ HZ1.out (HID.out _ _ _ _ _) rfl (HDO.out _ _ _ _ _) ?_
          have hfx5 := Fr.row1 wx4 pB (dval d s2 n2 c2 m2)
          replace HO0 := Lib.hid (DV.past HO0.out HOK.out hfx5 HZ1.out DZ_no)
          replace HO1 := Lib.hid (DV.past HO1.out HOK.out hfx5 HZ1.out DZ_no)
          replace HZ0 := Lib.hid ((show Bk (wx4.setRow pB (dval d s2 n2 c2 m2)) pA (dval d s1 n1 c1 m1) 39 from ArrKit.Bk.rowOther HZ0.out _ (HPQ.out)))
          have HX1' : Hid (Bk (wx4.setRow pB (dval d s2 n2 c2 m2)) pB (dval d s2 n2 c2 m2) 39) := Lib.hid (ArrKit.Bk.row HZ1.out _)
          clear HZ1
          have HZ1 := HX1'
          clear HX1'
          refine hK.out _ _ (ArrKit.Fr.row hHeld5 _ _ (.inl HLO1.out)) (fun hHeld6 => ?_)
          clear hK K hHeld5
          clear hfx5
          generalize (wx4.setRow pB (dval d s2 n2 c2 m2)) = wx5 at *
          change wpAnyH _ _ _ _ _ 0 #[true, true, true, true, true, true, true, true] _ _
          refine wpAnyH_done (by kernel_rfl) ?_ _
          refine NoPanic.normal ?_
          have HEND := Lib.hid hHeld6
          clear hHeld6
          exact HREST.out wx5 pA pB s1 n1 c1 m1 s2 n2 c2 m2 HEND.out ⟨HZ0.out, HO0.out⟩ ⟨HZ1.out, HO1.out⟩ HPQ.out HLO0.out HLO1.out
        · simp only [zA, zB, zC]
          refine (if_pos (by kernel_rfl)).mpr ?_
          go_wp2_with fail
          have hfx2 : Fr (fun _ => False) wx1 (wx1.alloc (.cells DZ 39)) := Fr.alloc (Fr.refl _ _) _
          have HLO0 : Hid (w2.heap.size ≤ wx1.heap.size) := Lib.hid (Fr.size hHeld2)
          have HPQ : Hid (wx1.heap.size ≠ pB) := Lib.hid (by have h1 := Bk.lt HZ1.out; omega)
          replace HZ1 := Lib.hid (hfx2.keep HZ1.out (fun h => h))
          replace HO0 := Lib.hid (DV.keep HO0.out hfx2)
          have HZ0 : Hid (Bk (wx1.alloc (.cells DZ 39)) wx1.heap.size DZ 39) := Lib.hid (Bk.new wx1 _)
          have HB0 : Hid (wx1.heap.size < (wx1.alloc (.cells DZ 39)).heap.size) := Lib.hid (Bk.lt HZ0.out)
          replace HB1 : Hid (pB < (wx1.alloc (.cells DZ 39)).heap.size) := Lib.hid (Bk.lt HZ1.out)
          refine hK.out _ _ (hHeld2.then0 hfx2) (fun hHeld3 => ?_)
          clear hK K hHeld2
          clear hfx2
          generalize wx1.heap.size = pA at *
          generalize (wx1.alloc (.cells DZ 39)) = wx2 at *
          change wpAnyH _ _ _ _ _ 3 #[true, true, true, false, true, true, false, false] _ _
          refine wpAnyH_ready (rs := [3]) (by kernel_rfl) (by simp) ?_
          refine AllReadyH.cons rfl (fun K hK => ?_) AllReadyH.nil
          simp only [zA, zB, zC]
          refine (if_pos (by kernel_rfl)).mpr ?_
          go_wp2_with fail
          refine (HDC.out _ (HF2.out.then0 hHeld3)).mono ?_
          rintro e wx3 ⟨s2, n2, c2, m2, rfl, hown1, hfx3⟩
          dsimp only
          replace HZ1 := Lib.hid (hfx3.keep HZ1.out (fun h => h))
          replace HO0 := Lib.hid (DV.keep HO0.out hfx3)
          replace HZ0 := Lib.hid (hfx3.keep HZ0.out (fun h => h))
          have HO1 := Lib.hid hown1
          clear hown1
          replace HB0 : Hid (pA < wx3.heap.size) := Lib.hid (Bk.lt HZ0.out)
          replace HB1 : Hid (pB < wx3.heap.size) := Lib.hid (Bk.lt HZ1.out)
          refine hK.out _ _ (hHeld3.then0 hfx3) (fun hHeld4 => ?_)
          clear hK K hHeld3
          clear hfx3
          change wpAnyH _ _ _ _ _ 2 #[true, true, true, true, true, true, false, false] _ _
          refine wpAnyH_ready (rs := [6]) (by kernel_rfl) (by simp) ?_
          refine AllReadyH.cons rfl (fun K hK => ?_) AllReadyH.nil
          simp only [zA, zB, zC]
          refine (if_pos (by kernel_rfl)).mpr ?_
          refine wp_store_row 39 _ _ rfl pA (dval d s1 n1 c1 m1) rfl rfl 39 DZ HZ0.out (HID.out _ _ _ _ _) rfl (HDO.out _ _ _ _ _) ?_
          have hfx4 := Fr.row1 wx3 pA (dval d s1 n1 c1 m1)
          replace HZ1 := Lib.hid ((show Bk (wx3.setRow pA (dval d s1 n1 c1 m1)) pB DZ 39 from ArrKit.Bk.rowOther HZ1.out _ (HPQ.out.symm)))
          replace HO0 := Lib.hid (DV.past HO0.out HOK.out hfx4 HZ0.out DZ_no)
          replace HO1 := Lib.hid (DV.past HO1.out HOK.out hfx4 HZ0.out DZ_no)
          have HX0' : Hid (Bk (wx3.setRow pA (dval d s1 n1 c1 m1)) pA (dval d s1 n1 c1 m1) 39) := Lib.hid (ArrKit.Bk.row HZ0.out _)
          clear HZ0
          have HZ0 := HX0'
          clear HX0'
          refine hK.out _ _ (ArrKit.Fr.row hHeld4 _ _ (.inl HLO0.out)) (fun hHeld5 => ?_)
          clear hK K hHeld4
          clear hfx4
          generalize (wx3.setRow pA (dval d s1 n1 c1 m1)) = wx4 at *
          change wpAnyH _ _ _ _ _ 1 #[true, true, true, true, true, true, true, false] _ _
          refine wpAnyH_ready (rs := [7]) (by kernel_rfl) (by simp) ?_
          refine AllReadyH.cons rfl (fun K hK => ?_) AllReadyH.nil
          simp only [zA, zB, zC]
          refine (if_pos (by kernel_rfl)).mpr ?_
          refine wp_store_row 39 _ _ rfl pB (dval d s2 n2 c2 m2) rfl rfl 39 DZ HZ1.out (HID.out _ _ _ _ _) rfl (HDO.out _ _ _ _ _) ?_
          have hfx5 := Fr.row1 wx4 pB (dval d s2 n2 c2 m2)
          replace HO0 := Lib.hid (DV.past HO0.out HOK.out hfx5 HZ1.out DZ_no)
          replace HZ0 := Lib.hid ((show Bk (wx4.setRow pB (dval d s2 n2 c2 m2)) pA (dval d s1 n1 c1 m1) 39 from ArrKit.Bk.rowOther HZ0.out _ (HPQ.out)))
          replace HO1 := Lib.hid (DV.past HO1.out HOK.out hfx5 HZ1.out DZ_no)
          have HX1' : Hid (Bk (wx4.setRow pB (dval d s2 n2 c2 m2)) pB (dval d s2 n2 c2 m2) 39) := Lib.hid (ArrKit.Bk.row HZ1.out _)
          clear HZ1
          have HZ1 := HX1'
          clear HX1'
          refine hK.out _ _ (ArrKit.Fr.row hHeld5 _ _ (.inl HLO1.out)) (fun hHeld6 => ?_)
          clear hK K hHeld5
          clear hfx5
          generalize (wx4.setRow pB (dval d s2 n2 c2 m2)) = wx5 at *
          change wpAnyH _ _ _ _ _ 0 #[true, true, true, true, true, true, true, true] _ _
          refine wpAnyH_done (by kernel_rfl) ?_ _
          refine NoPanic.normal ?_
          have HEND := Lib.hid hHeld6
          clear hHeld6
          exact HREST.out wx5 pA pB s1 n1 c1 m1 s2 n2 c2 m2 HEND.out ⟨HZ0.out, HO0.out⟩ ⟨HZ1.out, HO1.out⟩ HPQ.out HLO0.out HLO1.out
      · simp only [zA, zB, zC]
        refine (if_pos (by kernel_rfl)).mpr ?_
        go_wp2_with fail
        have hfx1 : Fr (fun _ => False) wx0 (wx0.alloc (.cells DZ 39)) := Fr.alloc (Fr.refl _ _) _
        have HLO0 : Hid (w2.heap.size ≤ wx0.heap.size) := Lib.hid (Fr.size hHeld1)
        have HPQ : Hid (wx0.heap.size ≠ pB) := Lib.hid (by have h1 := Bk.lt HZ1.out; omega)
        replace HZ1 := Lib.hid (hfx1.keep HZ1.out (fun h => h))
        have HZ0 : Hid (Bk (wx0.alloc (.cells DZ 39)) wx0.heap.size DZ 39) := Lib.hid (Bk.new wx0 _)
        have HB0 : Hid (wx0.heap.size < (wx0.alloc (.cells DZ 39)).heap.size) := Lib.hid (Bk.lt HZ0.out)
        replace HB1 : Hid (pB < (wx0.alloc (.cells DZ 39)).heap.size) := Lib.hid (Bk.lt HZ1.out)
        refine hK.out _ _ (hHeld1.then0 hfx1) (fun hHeld2 => ?_)
        clear hK K hHeld1
        clear hfx1
        generalize wx0.heap.size = pA at *
        generalize (wx0.alloc (.cells DZ 39)) = wx1 at *
        change wpAnyH _ _ _ _ _ 4 #[true, false, true, false, true, true, false, false] _ _
        refine wpAnyH_ready (rs := [1]) (by kernel_rfl) (by simp) ?_
        refine AllReadyH.cons rfl (fun K hK => ?_) AllReadyH.nil
        simp only [zA, zB, zC]
        refine (if_pos (by kernel_rfl)).mpr ?_
        go_wp2_with fail
        refine (HDC.out _ (HF2.out.then0 hHeld2)).mono ?_
        rintro e wx2 ⟨s1, n1, c1, m1, rfl, hown0, hfx2⟩
        dsimp only
        replace HZ1 := Lib.hid (hfx2.keep HZ1.out (fun h => h))
        replace HZ0 := Lib.hid (hfx2.keep HZ0.out (fun h => h))
        have HO0 := Lib.hid hown0
        clear hown0
        replace HB0 : Hid (pA < wx2.heap.size) := Lib.hid (Bk.lt HZ0.out)
        replace HB1 : Hid (pB < wx2.heap.size) := Lib.hid (Bk.lt HZ1.out)
        refine hK.out _ _ (hHeld2.then0 hfx2) (fun hHeld3 => ?_)
        clear hK K hHeld2
        clear hfx2
        change wpAnyH _ _ _ _ _ 3 #[true, true, true, false, true, true, false, false] _ _
        refine wpAnyH_ready (rs := [3]) (by kernel_rfl) (by simp) ?_
        refine AllReadyH.cons rfl (fun K hK => ?_) AllReadyH.nil
        simp only [zA, zB, zC]
        refine (if_pos (by kernel_rfl)).mpr ?_
        go_wp2_with fail
        refine (HDC.out _ (HF2.out.then0 hHeld3)).mono ?_
        rintro e wx3 ⟨s2, n2, c2, m2, rfl, hown1, hfx3⟩
        dsimp only
        replace HZ1 := Lib.hid (hfx3.keep HZ1.out (fun h => h))
        replace HZ0 := Lib.hid (hfx3.keep HZ0.out (fun h => h))
        replace HO0 := Lib.hid (DV.keep HO0.out hfx3)
        have HO1 := Lib.hid hown1
        clear hown1
        replace HB0 : Hid (pA < wx3.heap.size) := Lib.hid (Bk.lt HZ0.out)
        replace HB1 : Hid (pB < wx3.heap.size) := Lib.hid (Bk.lt HZ1.out)
        refine hK.out _ _ (hHeld3.then0 hfx3) (fun hHeld4 => ?_)
        clear hK K hHeld3
        clear hfx3
        change wpAnyH _ _ _ _ _ 2 #[true, true, true, true, true, true, false, false] _ _
        refine wpAnyH_ready (rs := [6]) (by kernel_rfl) (by simp) ?_
        refine AllReadyH.cons rfl (fun K hK => ?_) AllReadyH.nil
        simp only [zA, zB, zC]
        refine (if_pos (by kernel_rfl)).mpr ?_
        refine wp_store_row 39 _ _ rfl pA (dval d s1 n1 c1 m1) rfl rfl 39 DZ HZ0.out (HID.out _ _ _ _ _) rfl (HDO.out _ _ _ _ _) ?_
        have hfx4 := Fr.row1 wx3 pA (dval d s1 n1 c1 m1)
        replace HZ1 := Lib.hid ((show Bk (wx3.setRow pA (dval d s1 n1 c1 m1)) pB DZ 39 from ArrKit.Bk.rowOther HZ1.out _ (HPQ.out.symm)))
        replace HO0 := Lib.hid (DV.past HO0.out HOK.out hfx4 HZ0.out DZ_no)
        replace HO1 := Lib.hid (DV.past HO1.out HOK.out hfx4 HZ0.out DZ_no)
        have HX0' : Hid (Bk (wx3.setRow pA (dval d s1 n1 c1 m1)) pA (dval d s1 n1 c1 m1) 39) := Lib.hid (ArrKit.Bk.row HZ0.out _)
        clear HZ0
        have HZ0 := HX0'
        clear HX0'
        refine hK.out _ _ (ArrKit.Fr.row hHeld4 _ _ (.inl HLO0.out)) (fun hHeld5 => ?_)
        clear hK K hHeld4
        clear hfx4
        generalize (wx3.setRow pA (dval d s1 n1 c1 m1)) = wx4 at *
        change wpAnyH _ _ _ _ _ 1 #[true, true, true, true, true, true, true, false] _ _
        refine wpAnyH_ready (rs := [7]) (by kernel_rfl) (by simp) ?_
        refine AllReadyH.cons rfl (fun K hK => ?_) AllReadyH.nil
        simp only [zA, zB, zC]
        refine (if_pos (by kernel_rfl)).mpr ?_
        refine wp_store_row 39 _ _ rfl pB (dval d s2 n2 c2 m2) rfl rfl 39 DZ HZ1.out (HID.out _ _ _ _ _) rfl (HDO.out _ _ _ _ _) ?_
        have hfx5 := Fr.row1 wx4 pB (dval d s2 n2 c2 m2)
        replace HZ0 := Lib.hid ((show Bk (wx4.setRow pB (dval d s2 n2 c2 m2)) pA (dval d s1 n1 c1 m1) 39 from ArrKit.Bk.rowOther HZ0.out _ (HPQ.out)))
        replace HO0 := Lib.hid (DV.past HO0.out HOK.out hfx5 HZ1.out DZ_no)
        replace HO1 := Lib.hid (DV.past HO1.out HOK.out hfx5 HZ1.out DZ_no)
        have HX1' : Hid (Bk (wx4.setRow pB (dval d s2 n2 c2 m2)) pB (dval d s2 n2 c2 m2) 39) := Lib.hid (ArrKit.Bk.row HZ1.out _)
        clear HZ1
        have HZ1 := HX1'
        clear HX1'
        refine hK.out _ _ (ArrKit.Fr.row hHeld5 _ _ (.inl HLO1.out)) (fun hHeld6 => ?_)
        clear hK K hHeld5
        clear hfx5
        generalize (wx4.setRow pB (dval d s2 n2 c2 m2)) = wx5 at *
        change wpAnyH _ _ _ _ _ 0 #[true, true, true, true, true, true, true, true] _ _
        refine wpAnyH_done (by kernel_rfl) ?_ _
        refine NoPanic.normal ?_
        have HEND := Lib.hid hHeld6
        clear hHeld6
        exact HREST.out wx5 pA pB s1 n1 c1 m1 s2 n2 c2 m2 HEND.out ⟨HZ0.out, HO0.out⟩ ⟨HZ1.out, HO1.out⟩ HPQ.out HLO0.out HLO1.out

end Go.Proofs.YtlleandelcjhjaaDoor.RmWritesLaw
