/- RemapBack, walked. -/
import Derived.Test.YtlleandelcjhjaaDoorRmGreat
import Derived.Test.YtlleandelcjhjaaDoorDiskTwins
import Derived.Test.YtlleandelcjhjaaDoorNeqKit
import Derived.Test.YtlleandelcjhjaaDoorRmTakePut
import Derived.Test.YtlleandelcjhjaaDoorRmBackPlain
set_option maxRecDepth 100000
set_option linter.unusedVariables false
set_option linter.unusedSimpArgs false
namespace Go.Proofs.YtlleandelcjhjaaDoor.RmBackLaw
open Go Go.RowKit Go.Proofs.YtlleandelcjhjaaDoor.K Go.Proofs.YtlleandelcjhjaaDoor.EqKit Go.Proofs.YtlleandelcjhjaaDoor.ArrKit Go.Proofs.YtlleandelcjhjaaDoor.HeldKit Go.Proofs.YtlleandelcjhjaaDoor.GKit Go.Proofs.YtlleandelcjhjaaDoor.GRow Go.Proofs.YtlleandelcjhjaaDoor.DiskKit Go.Proofs.YtlleandelcjhjaaDoor.RmKit Go.Proofs.YtlleandelcjhjaaDoor.MapKit Go.Proofs.YtlleandelcjhjaaDoor.DiskNew Go.Proofs.YtlleandelcjhjaaDoor.RmRight Go.Proofs.YtlleandelcjhjaaDoor.RmRRight Go.Proofs.YtlleandelcjhjaaDoor.RmTab Go.Proofs.YtlleandelcjhjaaDoor.RmPut Go.Proofs.YtlleandelcjhjaaDoor.RmRPut Go.Proofs.YtlleandelcjhjaaDoor.RmAsk Go.Proofs.YtlleandelcjhjaaDoor.RmSame Go.Proofs.YtlleandelcjhjaaDoor.DiskCopy Go.Proofs.YtlleandelcjhjaaDoor.DiskTwins Go.Proofs.YtlleandelcjhjaaDoor.DiskSame Go.Proofs.YtlleandelcjhjaaDoor.DiskRRead Go.Proofs.YtlleandelcjhjaaDoor.RmRead Go.Proofs.YtlleandelcjhjaaDoor.RmReads Go.Proofs.YtlleandelcjhjaaDoor.RmAlive Go.Proofs.YtlleandelcjhjaaDoor.RmAliveP Go.Proofs.YtlleandelcjhjaaDoor.RmGreat Go.Proofs.YtlleandelcjhjaaDoor.DiskAct Go.Proofs.YtlleandelcjhjaaDoor.RmSpare Go.Proofs.YtlleandelcjhjaaDoor.RmKeep Go.Proofs.YtlleandelcjhjaaDoor.RmFirst Go.Proofs.YtlleandelcjhjaaDoor.RmWrX Go.Proofs.YtlleandelcjhjaaDoor.RmWrite Go.Proofs.YtlleandelcjhjaaDoor.RmTake Go.Proofs.YtlleandelcjhjaaDoor.RmTakePut Go.Proofs.YtlleandelcjhjaaDoor.RmBackPlain

/-- what is written where, as a value -/
def LAYV (n : Int) (b : List UInt8) : Array Value := ((.int .i64 n : Value) :: b.map B).toArray
theorem lay_range {w : World} {x : Nat} {n : Int} {b : List UInt8} (h : Bk w x (LAYV n b) 47) : w.rangeAt x 1 (b.map B) := fun j u hj => by
  rw [Bk.cell h, LAYV, List.getElem?_toArray, Nat.add_comm, List.getElem?_cons_succ]
  exact hj
theorem lay_cell {w : World} {x : Nat} {n : Int} {b : List UInt8} (h : Bk w x (LAYV n b) 47) : w.cell? ⟨x, 0, none⟩ = some (.int .i64 n) := by
  rw [Bk.cell h]; rfl
/-- a table is no place of tables' pairs -/
theorem RV.pastR {w w1 : World} {m : Rm} {a : Option Addr} {c r : Nat} (h : RV w m a c) (f : Fr (fun i => i = r) w w1) {g : Int} {a' : Option Addr} {n' c' : Nat} (hb : Bk w r (RC g (.slice a' n' c')) 24) : RV w1 m a c :=
  ⟨RdG.later h.rd f (fun x e hl => by
    subst e
    rintro rfl
    have h0 : 0 < m.ps.length := List.length_pos_iff.2 hl
    obtain ⟨b, o, e0, hat⟩ := RdP.form h.rd h0
    cases e0
    have h1 := (hat _ h.rd).2.1
    have h2 := (hat _ h.rd).2.2
    rw [Bk.cell hb] at h1 h2
    generalize o + 0 * 2 = q at *
    rcases (show q = 0 ∨ q = 1 ∨ 2 ≤ q by omega) with rfl | rfl | h4
    · cases (Option.some.inj h2)
    · cases (Option.some.inj h1)
    · rw [Array.getElem?_eq_none (show (RC g (.slice a' n' c')).size ≤ q from h4)] at h1; cases h1), h.len, h.max⟩
/-- a disk and a table, each in its variable -/
def PS (w : World) (p r : Nat) (d : Dk) (m : Rm) : Prop := DIn w p d ∧ ∃ a c, Bk w r (rval m a c) 24 ∧ RV w m a c
theorem PS.keep0 {w w1 : World} {p r : Nat} {d : Dk} {m : Rm} (h : PS w p r d m) (f : Fr0 w w1) : PS w1 p r d m := by
  obtain ⟨h1, a, c, h2, h3⟩ := h
  exact ⟨h1.keep f, a, c, f.keep h2 (fun h => h), h3.keep f⟩
theorem Fr.split {w w1 : World} {p r : Nat} (f : Fr (fun i => i = p ∨ i = r) w w1) : ∃ w0 : World, Fr (fun i => i = p) w w0 ∧ Fr (fun i => i = r) w0 w1 ∧ (∀ i, i ≠ p → i < w.heap.size → w0.heap[i]? = w.heap[i]?) := by
  by_cases hp : p < w.heap.size
  · by_cases hp1 : p < w1.heap.size
    · refine ⟨{ w with heap := w.heap.set p w1.heap[p] hp }, ⟨rfl, rfl, rfl, by simp, fun i hi hs => ?_⟩, ⟨f.os, f.tape, f.output, by simpa using f.size, fun i hi hs => ?_⟩, fun i hi hl => ?_⟩
      · show (w.heap.set p _ hp)[i]? = _
        rw [Array.getElem?_set_ne _ (fun e => hs e.symm)]
      · show _ = (w.heap.set p _ hp)[i]?
        have hi' : i < w.heap.size := by simpa using hi
        by_cases e : i = p
        · subst e
          rw [Array.getElem?_set_self, Array.getElem?_eq_getElem hp1]
        · rw [Array.getElem?_set_ne _ (fun h => e h.symm)]
          exact f.block i hi' (fun h => h.elim e hs)
      · show (w.heap.set p _ hp)[i]? = _
        rw [Array.getElem?_set_ne _ (fun e => hi e.symm)]
    · exact absurd (Nat.lt_of_lt_of_le hp f.size) hp1
  · exact ⟨w, Fr.refl _ _, ⟨f.os, f.tape, f.output, f.size, fun i hi hs => f.block i hi (fun h => h.elim (fun e => hp (e ▸ hi)) hs)⟩, fun _ _ _ => rfl⟩
theorem PS.past {w w1 : World} {p r q s : Nat} {d d0 : Dk} {m m0 : Rm} (h : PS w q s d m) (hok : d.ok) (h0 : PS w p r d0 m0) (f : Fr (fun i => i = p ∨ i = r) w w1) (hpr : r ≠ p) (hqp : q ≠ p) (hqr : q ≠ r) (hsp : s ≠ p) (hsr : s ≠ r) : PS w1 q s d m := by
  obtain ⟨⟨sa, sc, ca, cc, h1⟩, a, c, h2, h3⟩ := h
  obtain ⟨⟨sa0, sc0, ca0, cc0, h01⟩, a0, c0, h02, h03⟩ := h0
  obtain ⟨w0, f1, f2, hk⟩ := Fr.split f
  have hr0 : Bk w0 r (rval m0 a0 c0) 24 := (hk r hpr (Bk.lt h02)).trans h02
  exact ⟨⟨sa, sc, ca, cc, DAt_past (h1.past hok f1 h01.blk (dval_no _ _ _ _ _) hqp) hok f2 hr0 (rc_no _ _ _ _) hqr⟩, a, c, f2.keep (f1.keep h2 hsp) hsr, RV.pastR (RV.past h3 f1 h01.blk) f2 hr0⟩
theorem wrX_ok {d : Dk} {m : Rm} {n : Int} {b : List UInt8} (hok : d.ok) (hm : m.ok) (hn : (Lit.int .i64 n).wf = true) (hb : b.length = 128) : (wrX d m n b).2.1.ok ∧ (wrX d m n b).2.2.ok ∧ (wrX d m n b).2.2.ps.length ≤ m.ps.length + 1 := by
  cases h1 : askedB d m n with
  | false => rw [wrX_no h1]; exact ⟨hok, hm, Nat.le_succ _⟩
  | true =>
    have hap := asked_parts h1
    have hl := half_lo hap.2.2.2.2
    have haw := atI_wf hm hn
    have hw := writeD_ok hok hb haw
    by_cases h2 : writeE d (atI m n) = 2
    · have hs := spareR_ok (m := m) hb 20 (2 * half (d.S.length : Int)) (writeD d (atI m n) b) hw (by omega) (by omega)
      obtain ⟨⟨to, e3, d2⟩, h3⟩ : ∃ x, spareR m b 20 (2 * half (d.S.length : Int)) (writeD d (atI m n) b) = x := ⟨_, rfl⟩
      rw [h3] at hs
      obtain ⟨s1, s2, s3, s4, s5, -⟩ := hs
      by_cases h30 : e3 = 0
      · have hto : (Lit.int .i64 to).wf = true := wf_small s4 (by show to ≤ _; have h6 : to ≤ 2 * half (d.S.length : Int) + (20 : Nat) := s5; omega)
        by_cases h17 : plc m n < 0 ∧ m.ps.length = 20
        · rw [wrX_3 h1 rfl h2 h3 h30 h17]; exact ⟨s1, hm, Nat.le_succ _⟩
        · by_cases h4 : flushE d2 = 0
          · have hk := keepX_ok (m := nextM m n to) (flushD_ok s1)
            have hg := tab_parts hap.1
            by_cases h5 : (keepX (flushD d2) (nextM m n to)).1 = 0
            · rw [wrX_6 h1 rfl h2 h3 h30 h17 h4 h5]; exact ⟨hk.1, nextM_ok hm hn hto (wf_small (by omega) (by omega)), nextM_len _ _ _⟩
            · rw [wrX_5 h1 rfl h2 h3 h30 h17 h4 h5]; exact ⟨hk.1, hm, Nat.le_succ _⟩
          · rw [wrX_4 h1 rfl h2 h3 h30 h17 h4]; exact ⟨flushD_ok s1, hm, Nat.le_succ _⟩
      · rw [wrX_2 h1 rfl h2 h3 h30]; exact ⟨s1, hm, Nat.le_succ _⟩
    · rw [wrX_1 h1 rfl h2]; exact ⟨hw, hm, Nat.le_succ _⟩
theorem PS.of {w : World} {p r : Nat} {d : Dk} {m : Rm} {sa : Option Addr} {sc : Nat} {ca : Option Addr} {cc : Nat} {a : Option Addr} {c : Nat} (h1 : DAt w p d sa sc ca cc) (h2 : Bk w r (rval m a c) 24) (h3 : RV w m a c) : PS w p r d m := ⟨⟨_, _, _, _, h1⟩, _, _, h2, h3⟩

set_option maxHeartbeats 20000000 in
set_option maxRecDepth 100000 in
theorem back_all (m : Rm) (a : Option Addr) (c : Nat) (d : Dk) (sa : Option Addr) (sc : Nat) (ca : Option Addr) (cc : Nat) (n : Int) (b : List UInt8) (w : World) (hok : d.ok) (hv : DV w d sa sc ca cc) (hS : d.S.length * 130 ≤ 140737488355328) (hC : d.C.length * 136 ≤ 140737488355328) (hm : m.ok) (hr : RV w m a c) (hlen : m.ps.length ≤ 8796093022207) (hn : (Lit.int .i64 n).wf = true) (hb : b.length = 128) (hsh : Sh w) : Calls Tryd.prog 7 #[.agg (dval d sa sc ca cc), .agg (rval m a c), .agg (LAYV n b)] w fun e w' => e = .returned (.bool true) ∧ Fr0 w w' := by
  have HV := Lib.hid hv
  have HR := Lib.hid hr
  have HSH := Lib.hid hsh
  have hs1 : (w.alloc (.cells (dval d sa sc ca cc) 39)).heap.size = w.heap.size + 1 := by simp
  have hs2 : ((w.alloc (.cells (dval d sa sc ca cc) 39)).alloc (.cells (rval m a c) 24)).heap.size = w.heap.size + 1 + 1 := by simp
  have HX0 : Hid (Bk (((w.alloc (.cells (dval d sa sc ca cc) 39)).alloc (.cells (rval m a c) 24)).alloc (.cells (LAYV n b) 47)) w.heap.size (dval d sa sc ca cc) 39) := Lib.hid (Bk.alloc (Bk.alloc (Bk.new w _) _) _)
  have HY0 : Hid (Bk (((w.alloc (.cells (dval d sa sc ca cc) 39)).alloc (.cells (rval m a c) 24)).alloc (.cells (LAYV n b) 47)) (w.heap.size + 1) (rval m a c) 24) := Lib.hid (Bk.alloc (by have := Bk.new (w.alloc (.cells (dval d sa sc ca cc) 39)) (.cells (rval m a c) 24); rwa [hs1] at this) _)
  have HL0 : Hid (Bk (((w.alloc (.cells (dval d sa sc ca cc) 39)).alloc (.cells (rval m a c) 24)).alloc (.cells (LAYV n b) 47)) (w.heap.size + 1 + 1) (LAYV n b) 47) := Lib.hid (by have := Bk.new ((w.alloc (.cells (dval d sa sc ca cc) 39)).alloc (.cells (rval m a c) 24)) (.cells (LAYV n b) 47); rwa [hs2] at this)
  have HF0 : Hid (Fr0 w (((w.alloc (.cells (dval d sa sc ca cc) 39)).alloc (.cells (rval m a c) 24)).alloc (.cells (LAYV n b) 47))) := Lib.hid (Fr.alloc (Fr.alloc (Fr.alloc (Fr.refl _ _) _) _) _)
  have hsn := hv.sn
  have hsm := hv.sm
  have hws : (Lit.int .i64 (d.S.length : Int)).wf = true := wf_nat (Nat.le_trans hsn hsm)
  have HAL : Hid (∀ W, Fr0 w W → Calls Tryd.prog 9 #[] W fun e w' => e = .returned (.bool true) ∧ Fr0 W w') := Lib.hid (fun W f => alive_calls W (hsh.keep0 f))
  have HGR : Hid (∀ W, Fr0 w W → Calls Tryd.prog 20 #[.agg (dval d sa sc ca cc)] W fun e w' => e = .returned (.bool (decide (300 < d.C.length))) ∧ Fr0 W w') := Lib.hid (fun W f => great_calls d sa sc ca cc W (hv.keep f))
  have HDC : Hid (∀ W, Fr0 w W → Calls Tryd.prog 21 #[.agg (dval d sa sc ca cc)] W fun e w' => ∃ sa' sc' ca' cc', e = .returned (.agg (dval d sa' sc' ca' cc')) ∧ DV w' d sa' sc' ca' cc' ∧ Fr0 W w') := Lib.hid (fun W f => copy_calls d sa sc ca cc W hok (hv.keep f) hS hC)
  have HRC : Hid (∀ W, Fr0 w W → Calls Tryd.prog 10 #[.agg (rval m a c)] W fun e w' => ∃ a' c', e = .returned (.agg (rval m a' c')) ∧ RV w' m a' c' ∧ Fr0 W w') := Lib.hid (fun W f => (rmcopy_calls m a c W (hr.keep f) (by omega)).mono (by rintro e w' ⟨g, cap, cur, h1, h2, h3, h4⟩; exact ⟨_, _, h1, ⟨OwnG.rd h3, OwnG.room h3, OwnG.max h3⟩, h4⟩))
  have hwo := wrX_ok hok hm hn hb
  have HPU : Hid (∀ a c W, Fr0 w W → RV W m a c → Calls Tryd.prog 11 #[.agg (rval m a c), .int .i64 (d.S.length : Int)] W fun e w' => e = .returned (.tuple #[.agg ((tabX m (d.S.length : Int)).map B).toArray, .int .i64 (tabE m (d.S.length : Int))]) ∧ Fr0 W w') := Lib.hid (fun a c W f h => RmPut.put_calls m a c _ W hm h hws (hsh.keep0 f))
  have hlx := tabX_len m (d.S.length : Int)
  have HTA : Hid (∀ W, Fr0 w W → Calls Tryd.prog 27 #[.agg ((tabX m (d.S.length : Int)).map B).toArray, .int .i64 (d.S.length : Int)] W fun e w' => ∃ a c, e = .returned (.tuple #[.agg (rval (takX (tabX m (d.S.length : Int)) (d.S.length : Int)) a c), .int .i64 (takE (tabX m (d.S.length : Int)) (d.S.length : Int))]) ∧ RV w' (takX (tabX m (d.S.length : Int)) (d.S.length : Int)) a c ∧ Fr0 W w') := Lib.hid (fun W f => RmTake.take_calls _ _ W hlx hws (hsh.keep0 f))
  have HRS : Hid (∀ W a c a' c', RV W m a c → RV W m a' c' → Calls Tryd.prog 19 #[.agg (rval m a c), .agg (rval m a' c')] W fun e w' => e = .returned (.bool true) ∧ Fr0 W w') := Lib.hid (fun W a c a' c' h h' => by have := rmsame_calls m m a a' c c' W hm hm h h' (by omega); rwa [decide_eq_true ⟨rfl, rfl⟩] at this)
  have HTP : Hid (tabE m (d.S.length : Int) = 0 → takX (tabX m (d.S.length : Int)) (d.S.length : Int) = m ∧ takE (tabX m (d.S.length : Int)) (d.S.length : Int) = 0) := Lib.hid (fun h => by
    have ht : tabB m (d.S.length : Int) = true := by
      cases hb : tabB m (d.S.length : Int) with
      | true => rfl
      | false => unfold tabE at h; rw [if_neg (by rw [hb]; decide)] at h; cases h
    have hx : tabX m (d.S.length : Int) = tabL m := by unfold tabX; rw [if_pos ht]
    rw [hx]; exact take_put ht)
  have HWA : Hid (d.C.length ≤ 900 → ∀ p r W, r ≠ p → Sh W → PS W p r d m → Calls Tryd.prog 25 #[.pointer (some ⟨p, 0, none⟩), .pointer (some ⟨r, 0, none⟩), .int .i64 n, .agg (b.map B).toArray] W fun e w' => e = .returned (.int .i64 (wrX d m n b).1) ∧ PS w' p r (wrX d m n b).2.1 (wrX d m n b).2.2 ∧ Fr (fun i => i = p ∨ i = r) W w') := Lib.hid (fun hc p r W hrp hs h => by
    obtain ⟨⟨sa, sc, ca, cc, h1⟩, a, c, h2, h3⟩ := h
    exact (write_calls p r d sa sc ca cc m a c b n W hok h1 hm h3 hb h2 hrp hs hn hc).mono (fun e w' h => ⟨h.1, ⟨h.2.1, h.2.2.1⟩, h.2.2.2⟩))
  have HRE : Hid (∀ (k : Int) p W sa sc ca cc a c, (Lit.int .i64 k).wf = true → DAt W p d sa sc ca cc → RV W m a c → Calls Tryd.prog 22 #[.pointer (some ⟨p, 0, none⟩), .agg (rval m a c), .int .i64 k] W fun e w' => e = .returned (readV (rdX d m k)) ∧ Fr0 W w') := Lib.hid (fun k p W sa sc ca cc a c hk h hr => rmread_calls p d sa sc ca cc m a c k W hok h hm hr hk)
  have HRF : Hid (∀ (k : Int) p W sa sc ca cc a c, (Lit.int .i64 k).wf = true → DAt W p (wrX d m n b).2.1 sa sc ca cc → RV W (wrX d m n b).2.2 a c → Calls Tryd.prog 22 #[.pointer (some ⟨p, 0, none⟩), .agg (rval (wrX d m n b).2.2 a c), .int .i64 k] W fun e w' => e = .returned (readV (rdX (wrX d m n b).2.1 (wrX d m n b).2.2 k)) ∧ Fr0 W w') := Lib.hid (fun k p W sa sc ca cc a c hk h hr => rmread_calls p _ sa sc ca cc _ a c k W hwo.1 h hwo.2.1 hr hk)
  have HBA : Hid ((wrX d m n b).1 = 0 → rdX (wrX d m n b).2.1 (wrX d m n b).2.2 n = (b, 0) ∧ ∀ k, k ≠ n → rdX (wrX d m n b).2.1 (wrX d m n b).2.2 k = rdX d m k) := Lib.hid (fun h => (back_reads hb hok hm hn (by rw [← h])).2)
  have HLK : Hid (∀ k, (rdX d m k).1.length = 128) := Lib.hid (fun k => rdX_len hok m k)
  have HOK := Lib.hid hok
  have HBL := Lib.hid hb
  have HIL : Hid ((Tryd.prog.info? 27).map (·.size) = some (b.map B).length) := Lib.hid (by rw [info_b, List.length_map, hb])
  have HIT := Lib.hid (info_l hlx)
  have HST := Lib.hid (size_l hlx)
  have HOT := Lib.hid (one_l (tabX m (d.S.length : Int)))
  have HID : Hid (∀ d a b c e, (Tryd.prog.info? 39).map (·.size) = some (dval d a b c e).size) := Lib.hid (fun _ _ _ _ _ => info_d)
  have HDO : Hid (∀ d a b c e, (dval d a b c e).all (·.oneCell') = true) := Lib.hid (fun _ _ _ _ _ => dval_one _ _ _ _ _)
  have HIR : Hid (∀ m a c, (Tryd.prog.info? 24).map (·.size) = some (rval m a c).size) := Lib.hid (fun _ _ _ => info_r _ _)
  have HRO : Hid (∀ m a c, (rval m a c).all (·.oneCell') = true) := Lib.hid (fun _ _ _ => RC_all _ _ _ _)
  have HEQ : Hid (∀ (l : List UInt8), l.length = 128 → ∀ W, (Op.equalIn 10000 27 (.agg (l.map B).toArray) (.agg (l.map B).toArray)).run Tryd.prog W = .ok true W) := Lib.hid (fun l hl W => by
    have := eq_bytes (P := Tryd.prog) Tryd.underlying27 Tryd.underlying5 (by kernel_rfl) (by kernel_rfl) (by kernel_rfl) l l hl hl W
    rwa [decide_eq_true rfl] at this)
  have hzd : ∀ W, (zeroValue 39).run Tryd.prog W = .ok (.agg DZ) W := by intro W; kernel_rfl
  have hzr := zero_r
  have hzb := zero_bl
  have HCL : Hid (decide (300 < d.C.length) = false → d.C.length ≤ 900) := Lib.hid (fun h => by have := of_decide_eq_false h; omega)
  obtain ⟨E, hE⟩ : ∃ E, (wrX d m n b).1 = E := ⟨_, rfl⟩
  obtain ⟨D1, hD1⟩ : ∃ D1, (wrX d m n b).2.1 = D1 := ⟨_, rfl⟩
  obtain ⟨M1, hM1⟩ : ∃ M1, (wrX d m n b).2.2 = M1 := ⟨_, rfl⟩
  rw [hE, hD1, hM1] at HWA HBA
  rw [hD1, hM1] at HRF
  have hc0 : (((w.alloc (.cells (dval d sa sc ca cc) 39)).alloc (.cells (rval m a c) 24)).alloc (.cells (LAYV n b) 47)).cell? ⟨w.heap.size, 0, none⟩ = some (.slice sa d.S.length sc) := Bk.cell HX0.out 0
  obtain ⟨N, hNN⟩ : ∃ N, d.S.length = N := ⟨_, rfl⟩
  have HNN := Lib.hid hNN
  rw [hNN] at hws
  have HWF : Hid (∀ k : Nat, k < N → (Lit.int .i64 (k : Int)).wf = true) := Lib.hid (fun k hk => wf_nat (by omega))
  clear hs1 hs2 hv hr hsh hok hm hn hS hC hlen hb hwo hE hD1 hM1 hlx hws hc0
  cases hg : decide (300 < d.C.length) with
  | true =>
    rw [hg] at HGR
    clear hg
    go_enter Tryd.func7, Tryd.ntmps7
    go_wp2_with (first | (go_at_call 9; (with_reducible refine (HAL.out _ HF0.out).mono ?_); rintro e w1 ⟨rfl, hf1⟩; have HF1 := Lib.hid (HF0.out.then0 hf1); have HX1 := Lib.hid (hf1.keep HX0.out (fun h => h)); have HY1 := Lib.hid (hf1.keep HY0.out (fun h => h)); have HL1 := Lib.hid (hf1.keep HL0.out (fun h => h)); clear hf1) | ((with_reducible show wpList _ _ _ ({ dst := _, op := Op.load 39 _, type := _, pos := _, after := _, guard := _ } :: _) _ _); refine wpList_load_row_g (by rfl) 39 _ rfl w.heap.size rfl 39 _ (0, 0) _ HX1.out Tryd.underlying39 rfl (HID.out _ _ _ _ _) ?_) | (go_at_call 20; (with_reducible refine (HGR.out _ HF1.out).mono ?_); rintro e w2 ⟨rfl, hf2⟩; have HF2 := Lib.hid (HF1.out.then0 hf2); have HX2 := Lib.hid (hf2.keep HX1.out (fun h => h)); have HY2 := Lib.hid (hf2.keep HY1.out (fun h => h)); have HL2 := Lib.hid (hf2.keep HL1.out (fun h => h)); have x20 : w2.cell? ⟨w.heap.size, 0, none⟩ = some (.slice sa N sc) := (Bk.cell HX2.out 0).trans (by rw [← HNN.out]; rfl); clear hf2))
    go_ret
    exact ⟨rfl, HF2.out⟩
  | false =>
    rw [hg] at HGR
    have HC9 := Lib.hid (HCL.out hg)
    clear hg HCL
    go_enter Tryd.func7, Tryd.ntmps7
    go_wp2_with (first | (go_at_call 9; (with_reducible refine (HAL.out _ HF0.out).mono ?_); rintro e w1 ⟨rfl, hf1⟩; have HF1 := Lib.hid (HF0.out.then0 hf1); have HX1 := Lib.hid (hf1.keep HX0.out (fun h => h)); have HY1 := Lib.hid (hf1.keep HY0.out (fun h => h)); have HL1 := Lib.hid (hf1.keep HL0.out (fun h => h)); clear hf1) | ((with_reducible show wpList _ _ _ ({ dst := _, op := Op.load 39 _, type := _, pos := _, after := _, guard := _ } :: _) _ _); refine wpList_load_row_g (by rfl) 39 _ rfl w.heap.size rfl 39 _ (0, 0) _ HX1.out Tryd.underlying39 rfl (HID.out _ _ _ _ _) ?_) | (go_at_call 20; (with_reducible refine (HGR.out _ HF1.out).mono ?_); rintro e w2 ⟨rfl, hf2⟩; have HF2 := Lib.hid (HF1.out.then0 hf2); have HX2 := Lib.hid (hf2.keep HX1.out (fun h => h)); have HY2 := Lib.hid (hf2.keep HY1.out (fun h => h)); have HL2 := Lib.hid (hf2.keep HL1.out (fun h => h)); have x20 : w2.cell? ⟨w.heap.size, 0, none⟩ = some (.slice sa N sc) := (Bk.cell HX2.out 0).trans (by rw [← HNN.out]; rfl); clear hf2))
    · go_ret
      exact ⟨rfl, HF2.out⟩
    rename_i K hKA
    have HREST : Hid (∀ (W : World) (pA pB : Nat) s1 n1 c1 m1 a2 k2, Fr (fun _ => False) w2 W → DAt W pA d s1 n1 c1 m1 → Bk W pB (rval m a2 k2) 24 → RV W m a2 k2 → pA ≠ pB → w2.heap.size ≤ pA → w2.heap.size ≤ pB → K { tmps := #[Value.agg (dval d sa sc ca cc), Value.agg (rval m a c), Value.agg (LAYV n b), Value.pointer (some ⟨w.heap.size, 0, none⟩), Value.pointer (some ⟨w.heap.size + 1, 0, none⟩), Value.pointer (some ⟨w.heap.size + 1 + 1, 0, none⟩), Value.bool false, .pointer (some ⟨pA, 0, none⟩), .pointer (some ⟨pB, 0, none⟩), undef, undef, undef, undef, undef, undef, undef, undef, undef, Value.bool true, Value.bool false, Value.agg (dval d sa sc ca cc), Value.bool false, Value.bool false, Value.pointer (some ⟨w.heap.size, 0, none⟩), Value.slice sa N sc, Value.int IntKind.i64 ↑N, .bool (decide ((100 : Int) < (N : Int))), .bool (decide ((100 : Int) < (N : Int))), .agg (dval d sa sc ca cc), .agg (dval d s1 n1 c1 m1), .agg (rval m a c), .agg (rval m a2 k2), undef, undef, undef, undef, undef, undef, undef, undef, undef, undef, undef, undef, undef, undef, undef, undef, undef, undef, undef, undef, undef, undef, undef, undef, undef, undef, undef, undef, undef, undef, undef, undef, undef, undef, undef, undef, undef, undef, undef, undef, undef, undef, undef, undef, undef, undef, undef, undef, undef, undef, undef, undef, undef, undef, undef, undef, undef, undef, undef, undef, undef, undef, undef, undef, undef, undef, undef, undef, undef, undef, undef, undef, undef, undef, undef, undef, undef, undef, undef, undef, undef, undef, undef], defers := [] } W) := Lib.hid (by
      intro wE xA rA s1 n1 c1 m1 a2 k2 hf hp hq hrv hpq hlo hlo2
      refine hKA _ _ ?_
      have HP3 := Lib.hid hp
      have HQ3 := Lib.hid hq
      have HRV3 := Lib.hid hrv
      have HF3 : Hid (Fr0 w wE) := Lib.hid (HF2.out.then0 hf)
      have HX3 := Lib.hid (hf.keep HX2.out (fun h => h))
      have HY3 := Lib.hid (hf.keep HY2.out (fun h => h))
      have HL3 := Lib.hid (hf.keep HL2.out (fun h => h))
      have HNE : Hid (w.heap.size + 1 + 1 < xA ∧ w.heap.size + 1 + 1 < rA ∧ rA ≠ xA) := Lib.hid (by
        have h1 := Bk.lt HL2.out
        exact ⟨by omega, by omega, fun e => hpq e.symm⟩)
      have x30 : wE.cell? ⟨w.heap.size, 0, none⟩ = some (.slice sa N sc) := (Bk.cell HX3.out 0).trans (by rw [← HNN.out]; rfl)
      clear hf hp hq hlo hlo2 hpq hrv x20
      rw [HNN.out] at HPU HTA
      have HTP2 := HTP
      rw [HNN.out] at HTP2
      by_cases ht0 : tabE m (N : Int) = 0
      · have h1 := HTP2.out ht0
        rw [h1.1, h1.2] at HTA
        rw [ht0] at HPU
        rw [HNN.out] at HIT HST HOT
        clear ht0 h1 HTP HTP2
        generalize ((tabX m (N : Int)).map B).toArray = LT at *
        by_cases hE0 : E = 0
        · have HBB := Lib.hid (HBA.out hE0)
          have hEn : (E != 0) = false := by simpa using hE0
          clear hE0
          go_wp2_with (first | ((with_reducible show wpList _ _ _ ({ dst := _, op := Op.load 24 _, type := _, pos := _, after := _, guard := _ } :: _) _ _); refine wpList_load_row_g (by rfl) 24 _ rfl rA rfl 24 (rval m a2 k2) (0, 0) _ HQ3.out Tryd.underlying24 rfl (HIR.out _ _ _) ?_) | (go_at_call 11; (with_reducible refine (HPU.out _ _ _ HF3.out HRV3.out).mono ?_); rintro e w4 ⟨rfl, hf4⟩; have HZ4 := Lib.hid (Bk.new w4 (.cells ZB 27)); have hfx : Fr0 wE ((w4.alloc (.cells ZB 27)).setRow w4.heap.size LT) := hf4.then0 (ArrKit.Fr.row (Fr.alloc (Fr.refl _ _) _) _ _ (.inl (Nat.le_refl _))); have HX5 := Lib.hid (Fr.keep hfx HX3.out (fun h => h)); have HY5 := Lib.hid (Fr.keep hfx HY3.out (fun h => h)); have HL5 := Lib.hid (Fr.keep hfx HL3.out (fun h => h)); have HQ5 := Lib.hid (Fr.keep hfx HQ3.out (fun h => h)); have HP5 := Lib.hid (DAt.keep HP3.out hfx); have HRV5 := Lib.hid (RV.keep HRV3.out hfx); have HF5 := Lib.hid (HF3.out.then0 hfx); have HT5 : Hid (Bk ((w4.alloc (.cells ZB 27)).setRow w4.heap.size LT) w4.heap.size LT 27) := Lib.hid (ArrKit.Bk.row HZ4.out _); have x50 : ((w4.alloc (.cells ZB 27)).setRow w4.heap.size LT).cell? ⟨w.heap.size, 0, none⟩ = some (.slice sa N sc) := (Bk.cell HX5.out 0).trans (by rw [← HNN.out]; rfl); clear hf4 hfx) | ((with_reducible show wpList _ _ _ ({ dst := _, op := Op.store 27 _ _, type := _, pos := _, after := _, guard := _ } :: _) _ _); refine wpList_store_row rfl 27 _ _ rfl w4.heap.size LT rfl rfl 27 ZB HZ4.out HIT.out HST.out HOT.out ?_) | ((with_reducible show wpList _ _ _ ({ dst := _, op := Op.load 27 _, type := _, pos := _, after := _, guard := _ } :: _) _ _); refine wpList_load_row_g (by rfl) 27 _ rfl w4.heap.size rfl 27 LT (0, 0) _ HT5.out Tryd.underlying27 rfl HIT.out ?_) | (go_at_call 27; (with_reducible refine (HTA.out _ HF5.out).mono ?_); rintro e w6 ⟨a6, c6, rfl, hv6, hf6⟩; have HZ6 := Lib.hid (Bk.new w6 (.cells RZ 24)); have hfr : Fr0 w6 ((w6.alloc (.cells RZ 24)).setRow w6.heap.size (rval m a6 c6)) := ArrKit.Fr.row (Fr.alloc (Fr.refl _ _) _) _ _ (.inl (Nat.le_refl _)); have hfx := hf6.then0 hfr; have HX7 := Lib.hid (Fr.keep hfx HX5.out (fun h => h)); have HY7 := Lib.hid (Fr.keep hfx HY5.out (fun h => h)); have HL7 := Lib.hid (Fr.keep hfx HL5.out (fun h => h)); have HQ7 := Lib.hid (Fr.keep hfx HQ5.out (fun h => h)); have HP7 := Lib.hid (DAt.keep HP5.out hfx); have HRV7 := Lib.hid (RV.keep HRV5.out hfx); have HF7 := Lib.hid (HF5.out.then0 hfx); have HU7 : Hid (Bk ((w6.alloc (.cells RZ 24)).setRow w6.heap.size (rval m a6 c6)) w6.heap.size (rval m a6 c6) 24) := Lib.hid (ArrKit.Bk.row HZ6.out _); have HUV7 : Hid (RV ((w6.alloc (.cells RZ 24)).setRow w6.heap.size (rval m a6 c6)) m a6 c6) := Lib.hid (hv6.keep hfr); have l70 := lay_cell HL7.out; clear hv6 hf6 hfr hfx) | ((with_reducible show wpList _ _ _ ({ dst := _, op := Op.store 24 _ _, type := _, pos := _, after := _, guard := _ } :: _) _ _); refine wpList_store_row rfl 24 _ _ rfl w6.heap.size (rval m a6 c6) rfl rfl 24 RZ HZ6.out (HIR.out _ _ _) rfl (HRO.out _ _ _) ?_) | ((with_reducible show wpList _ _ _ ({ dst := _, op := Op.load 24 _, type := _, pos := _, after := _, guard := _ } :: _) _ _); refine wpList_load_row_g (by rfl) 24 _ rfl w6.heap.size rfl 24 (rval m a6 c6) (0, 0) _ HU7.out Tryd.underlying24 rfl (HIR.out _ _ _) ?_) | ((with_reducible show wpList _ _ _ ({ dst := _, op := Op.load 24 _, type := _, pos := _, after := _, guard := _ } :: _) _ _); refine wpList_load_row_g (by rfl) 24 _ rfl (w.heap.size + 1) rfl 24 (rval m a c) (0, 0) _ HY7.out Tryd.underlying24 rfl (HIR.out _ _ _) ?_) | (go_at_call 19; (with_reducible refine (HRS.out _ _ _ _ _ HUV7.out (HR.out.keep HF7.out)).mono ?_); rintro e w8 ⟨rfl, hf8⟩; have HX8 := Lib.hid (Fr.keep hf8 HX7.out (fun h => h)); have HY8 := Lib.hid (Fr.keep hf8 HY7.out (fun h => h)); have HL8 := Lib.hid (Fr.keep hf8 HL7.out (fun h => h)); have HQ8 := Lib.hid (Fr.keep hf8 HQ7.out (fun h => h)); have HP8 := Lib.hid (DAt.keep HP7.out hf8); have HRV8 := Lib.hid (RV.keep HRV7.out hf8); have HF8 := Lib.hid (HF7.out.then0 hf8); have l80 := lay_cell HL8.out; clear hf8) | ((with_reducible show wpList _ _ _ ({ dst := _, op := Op.load 27 _, type := _, pos := _, after := _, guard := _ } :: _) _ _); refine wpList_load_mid_g (by rfl) 27 _ rfl (w.heap.size + 1 + 1) 1 rfl (b.map B) _ (lay_range HL8.out) Tryd.underlying27 rfl HIL.out ?_) | (go_at_call 25; (with_reducible refine (HWA.out HC9.out _ _ _ HNE.out.2.2 (HSH.out.keep0 HF8.out) (PS.of HP8.out HQ8.out HRV8.out)).mono ?_); rintro e w9 ⟨rfl, hps9, hf9⟩; have HPS := Lib.hid hps9; have HD9 : Hid (PS w9 w.heap.size (w.heap.size + 1) d m) := Lib.hid (PS.past (PS.of ⟨HX8.out, HV.out.keep HF8.out⟩ HY8.out (HR.out.keep HF8.out)) HOK.out (PS.of HP8.out HQ8.out HRV8.out) hf9 HNE.out.2.2 (by have := HNE.out; omega) (by have := HNE.out; omega) (by have := HNE.out; omega) (by have := HNE.out; omega)); have HL9 := Lib.hid (hf9.keep HL8.out (by have := HNE.out; omega)); have HF9 : Hid (Fr0 w w9) := Lib.hid (HF8.out.then hf9 (fun i hi e => by have := HNE.out; omega)); clear hps9 hf9))
          go_loopw [13] (fun jj W => ∃ k : Nat, k ≤ N ∧ jj = .int .i64 k ∧ Fr0 w9 W) (fun jj _ => N - (intOf jj).toNat)
          case atStart => exact ⟨0, Nat.zero_le _, rfl, Fr.refl _ _⟩
          case round =>
            obtain ⟨k, hk, rfl, hfk⟩ := hrel
            obtain ⟨⟨y1, y2, y3, y4, hA1⟩, aM, cM, hM1, hM2⟩ := HD9.out.keep0 hfk
            obtain ⟨⟨z1, z2, z3, z4, hB1⟩, aP, cP, hN1, hN2⟩ := HPS.out.keep0 hfk
            have HA0 := Lib.hid hA1
            have HB0 := Lib.hid hB1
            have HM0 := Lib.hid hM1
            have HMV0 := Lib.hid hM2
            have HN0 := Lib.hid hN1
            have HNV0 := Lib.hid hN2
            have HG0 := Lib.hid hfk
            have HZL0 := Lib.hid (hfk.keep HL9.out (fun h => h))
            have x0 : wr.cell? ⟨w.heap.size, 0, none⟩ = some (.slice y1 N y2) := (Bk.cell hA1.blk 0).trans (by rw [← HNN.out]; rfl)
            clear hA1 hB1 hM1 hM2 hN1 hN2 hfk
            by_cases hkN : k < N
            · have HKN := Lib.hid hkN
              by_cases hkn : (k : Int) = n
              · have HR1 : Hid (∀ W, DAt W w.heap.size d y1 y2 y3 y4 → RV W m aM cM → Calls Tryd.prog 22 #[.pointer (some ⟨w.heap.size, 0, none⟩), .agg (rval m aM cM), .int .i64 (k : Int)] W fun e w' => e = .returned (readV (rdX d m (k : Int))) ∧ Fr0 W w') := Lib.hid (fun W h1 h2 => HRE.out _ _ _ _ _ _ _ _ _ (HWF.out k hkN) h1 h2)
                have HR2 : Hid (∀ W, DAt W xA D1 z1 z2 z3 z4 → RV W M1 aP cP → Calls Tryd.prog 22 #[.pointer (some ⟨xA, 0, none⟩), .agg (rval M1 aP cP), .int .i64 (k : Int)] W fun e w' => e = .returned (readV ((b, 0) : List UInt8 × Int)) ∧ Fr0 W w') := Lib.hid (fun W h1 h2 => by have := HRF.out (k : Int) _ _ _ _ _ _ _ _ (HWF.out k hkN) h1 h2; rwa [(show rdX D1 M1 (k : Int) = (b, 0) by rw [hkn]; exact HBB.out.1)] at this)
                have HIK := Lib.hid (info_l (HLK.out (k : Int)))
                have HSK := Lib.hid (size_l (HLK.out (k : Int)))
                have HOK2 := Lib.hid (one_l (rdX d m (k : Int)).1)
                have HIQ := Lib.hid (info_l HBL.out)
                have HSQ := Lib.hid (size_l HBL.out)
                have HOQ := Lib.hid (one_l b)
                have HEB := Lib.hid (HEQ.out b HBL.out)
                have hk1 : ((k : Int) == n) = true := by simpa using hkn
                have hk2 : ((k : Int) != n) = false := by simpa using hkn
                unfold readV at HR1 HR2
                try simp only at HR1 HR2
                generalize ((rdX d m (k : Int)).1.map B).toArray = LK at *
                generalize (rdX d m (k : Int)).2 = ek at *
                clear hkn
                go_wp2_with (first | ((with_reducible show wpList _ _ _ ({ dst := _, op := Op.load 24 _, type := _, pos := _, after := _, guard := _ } :: _) _ _); refine wpList_load_row_g (by rfl) 24 _ rfl (w.heap.size + 1) rfl 24 (rval m aM cM) (0, 0) _ HM0.out Tryd.underlying24 rfl (HIR.out _ _ _) ?_) | (go_at_call 22; (with_reducible refine (HR1.out _ HA0.out HMV0.out).mono ?_); rintro e wB ⟨rfl, hfB⟩; have HZB := Lib.hid (Bk.new wB (.cells ZB 27)); have hfx : Fr0 wr ((wB.alloc (.cells ZB 27)).setRow wB.heap.size LK) := hfB.then0 (ArrKit.Fr.row (Fr.alloc (Fr.refl _ _) _) _ _ (.inl (Nat.le_refl _))); have HA1 := Lib.hid (DAt.keep HA0.out hfx); have HM1 := Lib.hid (Fr.keep hfx HM0.out (fun h => h)); have HMV1 := Lib.hid (RV.keep HMV0.out hfx); have HB1 := Lib.hid (DAt.keep HB0.out hfx); have HN1 := Lib.hid (Fr.keep hfx HN0.out (fun h => h)); have HNV1 := Lib.hid (RV.keep HNV0.out hfx); have HZL1 := Lib.hid (Fr.keep hfx HZL0.out (fun h => h)); have HG1 := Lib.hid (HG0.out.then0 hfx); have HK1 : Hid (Bk ((wB.alloc (.cells ZB 27)).setRow wB.heap.size LK) wB.heap.size LK 27) := Lib.hid (ArrKit.Bk.row HZB.out _); clear hfB hfx) | ((with_reducible show wpList _ _ _ ({ dst := _, op := Op.store 27 _ _, type := _, pos := _, after := _, guard := _ } :: _) _ _); refine wpList_store_row rfl 27 _ _ rfl wB.heap.size LK rfl rfl 27 ZB HZB.out HIK.out HSK.out HOK2.out ?_) | ((with_reducible show wpList _ _ _ ({ dst := _, op := Op.load 24 _, type := _, pos := _, after := _, guard := _ } :: _) _ _); refine wpList_load_row_g (by rfl) 24 _ rfl rA rfl 24 (rval M1 aP cP) (0, 0) _ HN1.out Tryd.underlying24 rfl (HIR.out _ _ _) ?_) | (go_at_call 22; (with_reducible refine (HR2.out _ HB1.out HNV1.out).mono ?_); rintro e wC ⟨rfl, hfC⟩; have HZC := Lib.hid (Bk.new wC (.cells ZB 27)); have hfx : Fr0 ((wB.alloc (.cells ZB 27)).setRow wB.heap.size LK) ((wC.alloc (.cells ZB 27)).setRow wC.heap.size (b.map B).toArray) := hfC.then0 (ArrKit.Fr.row (Fr.alloc (Fr.refl _ _) _) _ _ (.inl (Nat.le_refl _))); have HA2 := Lib.hid (DAt.keep HA1.out hfx); have HM2 := Lib.hid (Fr.keep hfx HM1.out (fun h => h)); have HMV2 := Lib.hid (RV.keep HMV1.out hfx); have HB2 := Lib.hid (DAt.keep HB1.out hfx); have HN2 := Lib.hid (Fr.keep hfx HN1.out (fun h => h)); have HNV2 := Lib.hid (RV.keep HNV1.out hfx); have HZL2 := Lib.hid (Fr.keep hfx HZL1.out (fun h => h)); have HG2 := Lib.hid (HG1.out.then0 hfx); have HK2 := Lib.hid (Fr.keep hfx HK1.out (fun h => h)); have HQ2 : Hid (Bk ((wC.alloc (.cells ZB 27)).setRow wC.heap.size (b.map B).toArray) wC.heap.size (b.map B).toArray 27) := Lib.hid (ArrKit.Bk.row HZC.out _); have l20 := lay_cell HZL2.out; clear hfC hfx) | ((with_reducible show wpList _ _ _ ({ dst := _, op := Op.store 27 _ _, type := _, pos := _, after := _, guard := _ } :: _) _ _); refine wpList_store_row rfl 27 _ _ rfl wC.heap.size (b.map B).toArray rfl rfl 27 ZB HZC.out HIQ.out HSQ.out HOQ.out ?_) | ((with_reducible show wpList _ _ _ ({ dst := _, op := Op.load 27 (Operand.tmp 16), type := _, pos := _, after := _, guard := _ } :: _) _ _); refine wpList_load_row_g (by rfl) 27 _ rfl wC.heap.size rfl 27 (b.map B).toArray (0, 0) _ HQ2.out Tryd.underlying27 rfl HIQ.out ?_) | ((with_reducible show wpList _ _ _ ({ dst := _, op := Op.load 27 (Operand.tmp 94), type := _, pos := _, after := _, guard := _ } :: _) _ _); refine wpList_load_mid_g (by rfl) 27 _ rfl (w.heap.size + 1 + 1) 1 rfl (b.map B) _ (lay_range HZL2.out) Tryd.underlying27 rfl HIL.out ?_) | ((with_reducible show wpList _ _ _ ({ dst := _, op := Op.binOp .neq 27 _ _ _, type := _, pos := _, after := _, guard := _ } :: _) _ _); refine NeqKit.wpList_neq_g (by rfl) rfl rfl rfl DiskSame.guard_b HEB.out ?_))
                go_roundw
                case rel => exact ⟨k + 1, by have := HKN.out; omega, by go_num, HG2.out⟩
                case measure => have := HKN.out; simp [intOf]; omega
              · have HR1 : Hid (∀ W, DAt W w.heap.size d y1 y2 y3 y4 → RV W m aM cM → Calls Tryd.prog 22 #[.pointer (some ⟨w.heap.size, 0, none⟩), .agg (rval m aM cM), .int .i64 (k : Int)] W fun e w' => e = .returned (readV (rdX d m (k : Int))) ∧ Fr0 W w') := Lib.hid (fun W h1 h2 => HRE.out _ _ _ _ _ _ _ _ _ (HWF.out k hkN) h1 h2)
                have HR2 : Hid (∀ W, DAt W xA D1 z1 z2 z3 z4 → RV W M1 aP cP → Calls Tryd.prog 22 #[.pointer (some ⟨xA, 0, none⟩), .agg (rval M1 aP cP), .int .i64 (k : Int)] W fun e w' => e = .returned (readV (rdX d m (k : Int))) ∧ Fr0 W w') := Lib.hid (fun W h1 h2 => by have := HRF.out (k : Int) _ _ _ _ _ _ _ _ (HWF.out k hkN) h1 h2; rwa [HBB.out.2 _ hkn] at this)
                have HIK := Lib.hid (info_l (HLK.out (k : Int)))
                have HSK := Lib.hid (size_l (HLK.out (k : Int)))
                have HOK2 := Lib.hid (one_l (rdX d m (k : Int)).1)
                have HIQ := Lib.hid HIK.out
                have HSQ := Lib.hid HSK.out
                have HOQ := Lib.hid HOK2.out
                have HEB := Lib.hid (HEQ.out _ (HLK.out (k : Int)))
                have hk1 : ((k : Int) == n) = false := by simpa using hkn
                have hk2 : ((k : Int) != n) = true := by simpa using hkn
                unfold readV at HR1 HR2
                try simp only at HR1 HR2
                generalize ((rdX d m (k : Int)).1.map B).toArray = LK at *
                generalize (rdX d m (k : Int)).2 = ek at *
                have hee : (ek != ek) = false := by simp
                clear hkn
                go_wp2_with (first | ((with_reducible show wpList _ _ _ ({ dst := _, op := Op.load 24 _, type := _, pos := _, after := _, guard := _ } :: _) _ _); refine wpList_load_row_g (by rfl) 24 _ rfl (w.heap.size + 1) rfl 24 (rval m aM cM) (0, 0) _ HM0.out Tryd.underlying24 rfl (HIR.out _ _ _) ?_) | (go_at_call 22; (with_reducible refine (HR1.out _ HA0.out HMV0.out).mono ?_); rintro e wB ⟨rfl, hfB⟩; have HZB := Lib.hid (Bk.new wB (.cells ZB 27)); have hfx : Fr0 wr ((wB.alloc (.cells ZB 27)).setRow wB.heap.size LK) := hfB.then0 (ArrKit.Fr.row (Fr.alloc (Fr.refl _ _) _) _ _ (.inl (Nat.le_refl _))); have HA1 := Lib.hid (DAt.keep HA0.out hfx); have HM1 := Lib.hid (Fr.keep hfx HM0.out (fun h => h)); have HMV1 := Lib.hid (RV.keep HMV0.out hfx); have HB1 := Lib.hid (DAt.keep HB0.out hfx); have HN1 := Lib.hid (Fr.keep hfx HN0.out (fun h => h)); have HNV1 := Lib.hid (RV.keep HNV0.out hfx); have HZL1 := Lib.hid (Fr.keep hfx HZL0.out (fun h => h)); have HG1 := Lib.hid (HG0.out.then0 hfx); have HK1 : Hid (Bk ((wB.alloc (.cells ZB 27)).setRow wB.heap.size LK) wB.heap.size LK 27) := Lib.hid (ArrKit.Bk.row HZB.out _); clear hfB hfx) | ((with_reducible show wpList _ _ _ ({ dst := _, op := Op.store 27 _ _, type := _, pos := _, after := _, guard := _ } :: _) _ _); refine wpList_store_row rfl 27 _ _ rfl wB.heap.size LK rfl rfl 27 ZB HZB.out HIK.out HSK.out HOK2.out ?_) | ((with_reducible show wpList _ _ _ ({ dst := _, op := Op.load 24 _, type := _, pos := _, after := _, guard := _ } :: _) _ _); refine wpList_load_row_g (by rfl) 24 _ rfl rA rfl 24 (rval M1 aP cP) (0, 0) _ HN1.out Tryd.underlying24 rfl (HIR.out _ _ _) ?_) | (go_at_call 22; (with_reducible refine (HR2.out _ HB1.out HNV1.out).mono ?_); rintro e wC ⟨rfl, hfC⟩; have HZC := Lib.hid (Bk.new wC (.cells ZB 27)); have hfx : Fr0 ((wB.alloc (.cells ZB 27)).setRow wB.heap.size LK) ((wC.alloc (.cells ZB 27)).setRow wC.heap.size LK) := hfC.then0 (ArrKit.Fr.row (Fr.alloc (Fr.refl _ _) _) _ _ (.inl (Nat.le_refl _))); have HA2 := Lib.hid (DAt.keep HA1.out hfx); have HM2 := Lib.hid (Fr.keep hfx HM1.out (fun h => h)); have HMV2 := Lib.hid (RV.keep HMV1.out hfx); have HB2 := Lib.hid (DAt.keep HB1.out hfx); have HN2 := Lib.hid (Fr.keep hfx HN1.out (fun h => h)); have HNV2 := Lib.hid (RV.keep HNV1.out hfx); have HZL2 := Lib.hid (Fr.keep hfx HZL1.out (fun h => h)); have HG2 := Lib.hid (HG1.out.then0 hfx); have HK2 := Lib.hid (Fr.keep hfx HK1.out (fun h => h)); have HQ2 : Hid (Bk ((wC.alloc (.cells ZB 27)).setRow wC.heap.size LK) wC.heap.size LK 27) := Lib.hid (ArrKit.Bk.row HZC.out _); have l20 := lay_cell HZL2.out; clear hfC hfx) | ((with_reducible show wpList _ _ _ ({ dst := _, op := Op.store 27 _ _, type := _, pos := _, after := _, guard := _ } :: _) _ _); refine wpList_store_row rfl 27 _ _ rfl wC.heap.size LK rfl rfl 27 ZB HZC.out HIQ.out HSQ.out HOQ.out ?_) | ((with_reducible show wpList _ _ _ ({ dst := _, op := Op.load 27 (Operand.tmp 16), type := _, pos := _, after := _, guard := _ } :: _) _ _); refine wpList_load_row_g (by rfl) 27 _ rfl wC.heap.size rfl 27 LK (0, 0) _ HQ2.out Tryd.underlying27 rfl HIQ.out ?_) | ((with_reducible show wpList _ _ _ ({ dst := _, op := Op.load 27 (Operand.tmp 14), type := _, pos := _, after := _, guard := _ } :: _) _ _); refine wpList_load_row_g (by rfl) 27 _ rfl wB.heap.size rfl 27 LK (0, 0) _ HK2.out Tryd.underlying27 rfl HIK.out ?_) | ((with_reducible show wpList _ _ _ ({ dst := _, op := Op.binOp .neq 27 _ _ _, type := _, pos := _, after := _, guard := _ } :: _) _ _); refine NeqKit.wpList_neq_g (by rfl) rfl rfl rfl DiskSame.guard_b HEB.out ?_))
                go_roundw
                case rel => exact ⟨k + 1, by have := HKN.out; omega, by go_num, HG2.out⟩
                case measure => have := HKN.out; simp [intOf]; omega
            · have hke : k = N := by omega
              subst hke
              go_wp2
              go_ret
              exact ⟨rfl, HF9.out.then0 HG0.out⟩
        · have hEn : (E != 0) = true := by simpa using hE0
          clear hE0
          go_wp2_with (first | ((with_reducible show wpList _ _ _ ({ dst := _, op := Op.load 24 _, type := _, pos := _, after := _, guard := _ } :: _) _ _); refine wpList_load_row_g (by rfl) 24 _ rfl rA rfl 24 (rval m a2 k2) (0, 0) _ HQ3.out Tryd.underlying24 rfl (HIR.out _ _ _) ?_) | (go_at_call 11; (with_reducible refine (HPU.out _ _ _ HF3.out HRV3.out).mono ?_); rintro e w4 ⟨rfl, hf4⟩; have HZ4 := Lib.hid (Bk.new w4 (.cells ZB 27)); have hfx : Fr0 wE ((w4.alloc (.cells ZB 27)).setRow w4.heap.size LT) := hf4.then0 (ArrKit.Fr.row (Fr.alloc (Fr.refl _ _) _) _ _ (.inl (Nat.le_refl _))); have HX5 := Lib.hid (Fr.keep hfx HX3.out (fun h => h)); have HY5 := Lib.hid (Fr.keep hfx HY3.out (fun h => h)); have HL5 := Lib.hid (Fr.keep hfx HL3.out (fun h => h)); have HQ5 := Lib.hid (Fr.keep hfx HQ3.out (fun h => h)); have HP5 := Lib.hid (DAt.keep HP3.out hfx); have HRV5 := Lib.hid (RV.keep HRV3.out hfx); have HF5 := Lib.hid (HF3.out.then0 hfx); have HT5 : Hid (Bk ((w4.alloc (.cells ZB 27)).setRow w4.heap.size LT) w4.heap.size LT 27) := Lib.hid (ArrKit.Bk.row HZ4.out _); have x50 : ((w4.alloc (.cells ZB 27)).setRow w4.heap.size LT).cell? ⟨w.heap.size, 0, none⟩ = some (.slice sa N sc) := (Bk.cell HX5.out 0).trans (by rw [← HNN.out]; rfl); clear hf4 hfx) | ((with_reducible show wpList _ _ _ ({ dst := _, op := Op.store 27 _ _, type := _, pos := _, after := _, guard := _ } :: _) _ _); refine wpList_store_row rfl 27 _ _ rfl w4.heap.size LT rfl rfl 27 ZB HZ4.out HIT.out HST.out HOT.out ?_) | ((with_reducible show wpList _ _ _ ({ dst := _, op := Op.load 27 _, type := _, pos := _, after := _, guard := _ } :: _) _ _); refine wpList_load_row_g (by rfl) 27 _ rfl w4.heap.size rfl 27 LT (0, 0) _ HT5.out Tryd.underlying27 rfl HIT.out ?_) | (go_at_call 27; (with_reducible refine (HTA.out _ HF5.out).mono ?_); rintro e w6 ⟨a6, c6, rfl, hv6, hf6⟩; have HZ6 := Lib.hid (Bk.new w6 (.cells RZ 24)); have hfr : Fr0 w6 ((w6.alloc (.cells RZ 24)).setRow w6.heap.size (rval m a6 c6)) := ArrKit.Fr.row (Fr.alloc (Fr.refl _ _) _) _ _ (.inl (Nat.le_refl _)); have hfx := hf6.then0 hfr; have HX7 := Lib.hid (Fr.keep hfx HX5.out (fun h => h)); have HY7 := Lib.hid (Fr.keep hfx HY5.out (fun h => h)); have HL7 := Lib.hid (Fr.keep hfx HL5.out (fun h => h)); have HQ7 := Lib.hid (Fr.keep hfx HQ5.out (fun h => h)); have HP7 := Lib.hid (DAt.keep HP5.out hfx); have HRV7 := Lib.hid (RV.keep HRV5.out hfx); have HF7 := Lib.hid (HF5.out.then0 hfx); have HU7 : Hid (Bk ((w6.alloc (.cells RZ 24)).setRow w6.heap.size (rval m a6 c6)) w6.heap.size (rval m a6 c6) 24) := Lib.hid (ArrKit.Bk.row HZ6.out _); have HUV7 : Hid (RV ((w6.alloc (.cells RZ 24)).setRow w6.heap.size (rval m a6 c6)) m a6 c6) := Lib.hid (hv6.keep hfr); have l70 := lay_cell HL7.out; clear hv6 hf6 hfr hfx) | ((with_reducible show wpList _ _ _ ({ dst := _, op := Op.store 24 _ _, type := _, pos := _, after := _, guard := _ } :: _) _ _); refine wpList_store_row rfl 24 _ _ rfl w6.heap.size (rval m a6 c6) rfl rfl 24 RZ HZ6.out (HIR.out _ _ _) rfl (HRO.out _ _ _) ?_) | ((with_reducible show wpList _ _ _ ({ dst := _, op := Op.load 24 _, type := _, pos := _, after := _, guard := _ } :: _) _ _); refine wpList_load_row_g (by rfl) 24 _ rfl w6.heap.size rfl 24 (rval m a6 c6) (0, 0) _ HU7.out Tryd.underlying24 rfl (HIR.out _ _ _) ?_) | ((with_reducible show wpList _ _ _ ({ dst := _, op := Op.load 24 _, type := _, pos := _, after := _, guard := _ } :: _) _ _); refine wpList_load_row_g (by rfl) 24 _ rfl (w.heap.size + 1) rfl 24 (rval m a c) (0, 0) _ HY7.out Tryd.underlying24 rfl (HIR.out _ _ _) ?_) | (go_at_call 19; (with_reducible refine (HRS.out _ _ _ _ _ HUV7.out (HR.out.keep HF7.out)).mono ?_); rintro e w8 ⟨rfl, hf8⟩; have HX8 := Lib.hid (Fr.keep hf8 HX7.out (fun h => h)); have HY8 := Lib.hid (Fr.keep hf8 HY7.out (fun h => h)); have HL8 := Lib.hid (Fr.keep hf8 HL7.out (fun h => h)); have HQ8 := Lib.hid (Fr.keep hf8 HQ7.out (fun h => h)); have HP8 := Lib.hid (DAt.keep HP7.out hf8); have HRV8 := Lib.hid (RV.keep HRV7.out hf8); have HF8 := Lib.hid (HF7.out.then0 hf8); have l80 := lay_cell HL8.out; clear hf8) | ((with_reducible show wpList _ _ _ ({ dst := _, op := Op.load 27 _, type := _, pos := _, after := _, guard := _ } :: _) _ _); refine wpList_load_mid_g (by rfl) 27 _ rfl (w.heap.size + 1 + 1) 1 rfl (b.map B) _ (lay_range HL8.out) Tryd.underlying27 rfl HIL.out ?_) | (go_at_call 25; (with_reducible refine (HWA.out HC9.out _ _ _ HNE.out.2.2 (HSH.out.keep0 HF8.out) (PS.of HP8.out HQ8.out HRV8.out)).mono ?_); rintro e w9 ⟨rfl, hps9, hf9⟩; have HPS := Lib.hid hps9; have HD9 : Hid (PS w9 w.heap.size (w.heap.size + 1) d m) := Lib.hid (PS.past (PS.of ⟨HX8.out, HV.out.keep HF8.out⟩ HY8.out (HR.out.keep HF8.out)) HOK.out (PS.of HP8.out HQ8.out HRV8.out) hf9 HNE.out.2.2 (by have := HNE.out; omega) (by have := HNE.out; omega) (by have := HNE.out; omega) (by have := HNE.out; omega)); have HL9 := Lib.hid (hf9.keep HL8.out (by have := HNE.out; omega)); have HF9 : Hid (Fr0 w w9) := Lib.hid (HF8.out.then hf9 (fun i hi e => by have := HNE.out; omega)); clear hps9 hf9))
          go_ret
          exact ⟨rfl, HF9.out⟩
      · have hte : (tabE m (N : Int) == 0) = false := by simpa using ht0
        rw [HNN.out] at HIT HST HOT
        clear ht0 HTP HTP2
        generalize tabE m (N : Int) = te at *
        generalize takX (tabX m (N : Int)) (N : Int) = TX at *
        generalize takE (tabX m (N : Int)) (N : Int) = TE at *
        generalize ((tabX m (N : Int)).map B).toArray = LT at *
        by_cases hE0 : E = 0
        · have HBB := Lib.hid (HBA.out hE0)
          have hEn : (E != 0) = false := by simpa using hE0
          clear hE0
          go_wp2_with (first | ((with_reducible show wpList _ _ _ ({ dst := _, op := Op.load 24 _, type := _, pos := _, after := _, guard := _ } :: _) _ _); refine wpList_load_row_g (by rfl) 24 _ rfl rA rfl 24 (rval m a2 k2) (0, 0) _ HQ3.out Tryd.underlying24 rfl (HIR.out _ _ _) ?_) | (go_at_call 11; (with_reducible refine (HPU.out _ _ _ HF3.out HRV3.out).mono ?_); rintro e w4 ⟨rfl, hf4⟩; have HZ4 := Lib.hid (Bk.new w4 (.cells ZB 27)); have hfx : Fr0 wE ((w4.alloc (.cells ZB 27)).setRow w4.heap.size LT) := hf4.then0 (ArrKit.Fr.row (Fr.alloc (Fr.refl _ _) _) _ _ (.inl (Nat.le_refl _))); have HX5 := Lib.hid (Fr.keep hfx HX3.out (fun h => h)); have HY5 := Lib.hid (Fr.keep hfx HY3.out (fun h => h)); have HL5 := Lib.hid (Fr.keep hfx HL3.out (fun h => h)); have HQ5 := Lib.hid (Fr.keep hfx HQ3.out (fun h => h)); have HP5 := Lib.hid (DAt.keep HP3.out hfx); have HRV5 := Lib.hid (RV.keep HRV3.out hfx); have HF5 := Lib.hid (HF3.out.then0 hfx); have HT5 : Hid (Bk ((w4.alloc (.cells ZB 27)).setRow w4.heap.size LT) w4.heap.size LT 27) := Lib.hid (ArrKit.Bk.row HZ4.out _); have x50 : ((w4.alloc (.cells ZB 27)).setRow w4.heap.size LT).cell? ⟨w.heap.size, 0, none⟩ = some (.slice sa N sc) := (Bk.cell HX5.out 0).trans (by rw [← HNN.out]; rfl); clear hf4 hfx) | ((with_reducible show wpList _ _ _ ({ dst := _, op := Op.store 27 _ _, type := _, pos := _, after := _, guard := _ } :: _) _ _); refine wpList_store_row rfl 27 _ _ rfl w4.heap.size LT rfl rfl 27 ZB HZ4.out HIT.out HST.out HOT.out ?_) | ((with_reducible show wpList _ _ _ ({ dst := _, op := Op.load 27 _, type := _, pos := _, after := _, guard := _ } :: _) _ _); refine wpList_load_row_g (by rfl) 27 _ rfl w4.heap.size rfl 27 LT (0, 0) _ HT5.out Tryd.underlying27 rfl HIT.out ?_) | (go_at_call 27; (with_reducible refine (HTA.out _ HF5.out).mono ?_); rintro e w6 ⟨a6, c6, rfl, hv6, hf6⟩; have HZ6 := Lib.hid (Bk.new w6 (.cells RZ 24)); have hfr : Fr0 w6 ((w6.alloc (.cells RZ 24)).setRow w6.heap.size (rval TX a6 c6)) := ArrKit.Fr.row (Fr.alloc (Fr.refl _ _) _) _ _ (.inl (Nat.le_refl _)); have hfx := hf6.then0 hfr; have HX7 := Lib.hid (Fr.keep hfx HX5.out (fun h => h)); have HY7 := Lib.hid (Fr.keep hfx HY5.out (fun h => h)); have HL7 := Lib.hid (Fr.keep hfx HL5.out (fun h => h)); have HQ7 := Lib.hid (Fr.keep hfx HQ5.out (fun h => h)); have HP7 := Lib.hid (DAt.keep HP5.out hfx); have HRV7 := Lib.hid (RV.keep HRV5.out hfx); have HF7 := Lib.hid (HF5.out.then0 hfx); have HU7 : Hid (Bk ((w6.alloc (.cells RZ 24)).setRow w6.heap.size (rval TX a6 c6)) w6.heap.size (rval TX a6 c6) 24) := Lib.hid (ArrKit.Bk.row HZ6.out _); have HUV7 : Hid (RV ((w6.alloc (.cells RZ 24)).setRow w6.heap.size (rval TX a6 c6)) TX a6 c6) := Lib.hid (hv6.keep hfr); have l70 := lay_cell HL7.out; clear hv6 hf6 hfr hfx) | ((with_reducible show wpList _ _ _ ({ dst := _, op := Op.store 24 _ _, type := _, pos := _, after := _, guard := _ } :: _) _ _); refine wpList_store_row rfl 24 _ _ rfl w6.heap.size (rval TX a6 c6) rfl rfl 24 RZ HZ6.out (HIR.out _ _ _) rfl (HRO.out _ _ _) ?_) | ((with_reducible show wpList _ _ _ ({ dst := _, op := Op.load 27 _, type := _, pos := _, after := _, guard := _ } :: _) _ _); refine wpList_load_mid_g (by rfl) 27 _ rfl (w.heap.size + 1 + 1) 1 rfl (b.map B) _ (lay_range HL7.out) Tryd.underlying27 rfl HIL.out ?_) | (go_at_call 25; (with_reducible refine (HWA.out HC9.out _ _ _ HNE.out.2.2 (HSH.out.keep0 HF7.out) (PS.of HP7.out HQ7.out HRV7.out)).mono ?_); rintro e w9 ⟨rfl, hps9, hf9⟩; have HPS := Lib.hid hps9; have HD9 : Hid (PS w9 w.heap.size (w.heap.size + 1) d m) := Lib.hid (PS.past (PS.of ⟨HX7.out, HV.out.keep HF7.out⟩ HY7.out (HR.out.keep HF7.out)) HOK.out (PS.of HP7.out HQ7.out HRV7.out) hf9 HNE.out.2.2 (by have := HNE.out; omega) (by have := HNE.out; omega) (by have := HNE.out; omega) (by have := HNE.out; omega)); have HL9 := Lib.hid (hf9.keep HL7.out (by have := HNE.out; omega)); have HF9 : Hid (Fr0 w w9) := Lib.hid (HF7.out.then hf9 (fun i hi e => by have := HNE.out; omega)); clear hps9 hf9))
          go_loopw [13] (fun jj W => ∃ k : Nat, k ≤ N ∧ jj = .int .i64 k ∧ Fr0 w9 W) (fun jj _ => N - (intOf jj).toNat)
          case atStart => exact ⟨0, Nat.zero_le _, rfl, Fr.refl _ _⟩
          case round =>
            obtain ⟨k, hk, rfl, hfk⟩ := hrel
            obtain ⟨⟨y1, y2, y3, y4, hA1⟩, aM, cM, hM1, hM2⟩ := HD9.out.keep0 hfk
            obtain ⟨⟨z1, z2, z3, z4, hB1⟩, aP, cP, hN1, hN2⟩ := HPS.out.keep0 hfk
            have HA0 := Lib.hid hA1
            have HB0 := Lib.hid hB1
            have HM0 := Lib.hid hM1
            have HMV0 := Lib.hid hM2
            have HN0 := Lib.hid hN1
            have HNV0 := Lib.hid hN2
            have HG0 := Lib.hid hfk
            have HZL0 := Lib.hid (hfk.keep HL9.out (fun h => h))
            have x0 : wr.cell? ⟨w.heap.size, 0, none⟩ = some (.slice y1 N y2) := (Bk.cell hA1.blk 0).trans (by rw [← HNN.out]; rfl)
            clear hA1 hB1 hM1 hM2 hN1 hN2 hfk
            by_cases hkN : k < N
            · have HKN := Lib.hid hkN
              by_cases hkn : (k : Int) = n
              · have HR1 : Hid (∀ W, DAt W w.heap.size d y1 y2 y3 y4 → RV W m aM cM → Calls Tryd.prog 22 #[.pointer (some ⟨w.heap.size, 0, none⟩), .agg (rval m aM cM), .int .i64 (k : Int)] W fun e w' => e = .returned (readV (rdX d m (k : Int))) ∧ Fr0 W w') := Lib.hid (fun W h1 h2 => HRE.out _ _ _ _ _ _ _ _ _ (HWF.out k hkN) h1 h2)
                have HR2 : Hid (∀ W, DAt W xA D1 z1 z2 z3 z4 → RV W M1 aP cP → Calls Tryd.prog 22 #[.pointer (some ⟨xA, 0, none⟩), .agg (rval M1 aP cP), .int .i64 (k : Int)] W fun e w' => e = .returned (readV ((b, 0) : List UInt8 × Int)) ∧ Fr0 W w') := Lib.hid (fun W h1 h2 => by have := HRF.out (k : Int) _ _ _ _ _ _ _ _ (HWF.out k hkN) h1 h2; rwa [(show rdX D1 M1 (k : Int) = (b, 0) by rw [hkn]; exact HBB.out.1)] at this)
                have HIK := Lib.hid (info_l (HLK.out (k : Int)))
                have HSK := Lib.hid (size_l (HLK.out (k : Int)))
                have HOK2 := Lib.hid (one_l (rdX d m (k : Int)).1)
                have HIQ := Lib.hid (info_l HBL.out)
                have HSQ := Lib.hid (size_l HBL.out)
                have HOQ := Lib.hid (one_l b)
                have HEB := Lib.hid (HEQ.out b HBL.out)
                have hk1 : ((k : Int) == n) = true := by simpa using hkn
                have hk2 : ((k : Int) != n) = false := by simpa using hkn
                unfold readV at HR1 HR2
                try simp only at HR1 HR2
                generalize ((rdX d m (k : Int)).1.map B).toArray = LK at *
                generalize (rdX d m (k : Int)).2 = ek at *
                clear hkn
                go_wp2_with (first | ((with_reducible show wpList _ _ _ ({ dst := _, op := Op.load 24 _, type := _, pos := _, after := _, guard := _ } :: _) _ _); refine wpList_load_row_g (by rfl) 24 _ rfl (w.heap.size + 1) rfl 24 (rval m aM cM) (0, 0) _ HM0.out Tryd.underlying24 rfl (HIR.out _ _ _) ?_) | (go_at_call 22; (with_reducible refine (HR1.out _ HA0.out HMV0.out).mono ?_); rintro e wB ⟨rfl, hfB⟩; have HZB := Lib.hid (Bk.new wB (.cells ZB 27)); have hfx : Fr0 wr ((wB.alloc (.cells ZB 27)).setRow wB.heap.size LK) := hfB.then0 (ArrKit.Fr.row (Fr.alloc (Fr.refl _ _) _) _ _ (.inl (Nat.le_refl _))); have HA1 := Lib.hid (DAt.keep HA0.out hfx); have HM1 := Lib.hid (Fr.keep hfx HM0.out (fun h => h)); have HMV1 := Lib.hid (RV.keep HMV0.out hfx); have HB1 := Lib.hid (DAt.keep HB0.out hfx); have HN1 := Lib.hid (Fr.keep hfx HN0.out (fun h => h)); have HNV1 := Lib.hid (RV.keep HNV0.out hfx); have HZL1 := Lib.hid (Fr.keep hfx HZL0.out (fun h => h)); have HG1 := Lib.hid (HG0.out.then0 hfx); have HK1 : Hid (Bk ((wB.alloc (.cells ZB 27)).setRow wB.heap.size LK) wB.heap.size LK 27) := Lib.hid (ArrKit.Bk.row HZB.out _); clear hfB hfx) | ((with_reducible show wpList _ _ _ ({ dst := _, op := Op.store 27 _ _, type := _, pos := _, after := _, guard := _ } :: _) _ _); refine wpList_store_row rfl 27 _ _ rfl wB.heap.size LK rfl rfl 27 ZB HZB.out HIK.out HSK.out HOK2.out ?_) | ((with_reducible show wpList _ _ _ ({ dst := _, op := Op.load 24 _, type := _, pos := _, after := _, guard := _ } :: _) _ _); refine wpList_load_row_g (by rfl) 24 _ rfl rA rfl 24 (rval M1 aP cP) (0, 0) _ HN1.out Tryd.underlying24 rfl (HIR.out _ _ _) ?_) | (go_at_call 22; (with_reducible refine (HR2.out _ HB1.out HNV1.out).mono ?_); rintro e wC ⟨rfl, hfC⟩; have HZC := Lib.hid (Bk.new wC (.cells ZB 27)); have hfx : Fr0 ((wB.alloc (.cells ZB 27)).setRow wB.heap.size LK) ((wC.alloc (.cells ZB 27)).setRow wC.heap.size (b.map B).toArray) := hfC.then0 (ArrKit.Fr.row (Fr.alloc (Fr.refl _ _) _) _ _ (.inl (Nat.le_refl _))); have HA2 := Lib.hid (DAt.keep HA1.out hfx); have HM2 := Lib.hid (Fr.keep hfx HM1.out (fun h => h)); have HMV2 := Lib.hid (RV.keep HMV1.out hfx); have HB2 := Lib.hid (DAt.keep HB1.out hfx); have HN2 := Lib.hid (Fr.keep hfx HN1.out (fun h => h)); have HNV2 := Lib.hid (RV.keep HNV1.out hfx); have HZL2 := Lib.hid (Fr.keep hfx HZL1.out (fun h => h)); have HG2 := Lib.hid (HG1.out.then0 hfx); have HK2 := Lib.hid (Fr.keep hfx HK1.out (fun h => h)); have HQ2 : Hid (Bk ((wC.alloc (.cells ZB 27)).setRow wC.heap.size (b.map B).toArray) wC.heap.size (b.map B).toArray 27) := Lib.hid (ArrKit.Bk.row HZC.out _); have l20 := lay_cell HZL2.out; clear hfC hfx) | ((with_reducible show wpList _ _ _ ({ dst := _, op := Op.store 27 _ _, type := _, pos := _, after := _, guard := _ } :: _) _ _); refine wpList_store_row rfl 27 _ _ rfl wC.heap.size (b.map B).toArray rfl rfl 27 ZB HZC.out HIQ.out HSQ.out HOQ.out ?_) | ((with_reducible show wpList _ _ _ ({ dst := _, op := Op.load 27 (Operand.tmp 16), type := _, pos := _, after := _, guard := _ } :: _) _ _); refine wpList_load_row_g (by rfl) 27 _ rfl wC.heap.size rfl 27 (b.map B).toArray (0, 0) _ HQ2.out Tryd.underlying27 rfl HIQ.out ?_) | ((with_reducible show wpList _ _ _ ({ dst := _, op := Op.load 27 (Operand.tmp 94), type := _, pos := _, after := _, guard := _ } :: _) _ _); refine wpList_load_mid_g (by rfl) 27 _ rfl (w.heap.size + 1 + 1) 1 rfl (b.map B) _ (lay_range HZL2.out) Tryd.underlying27 rfl HIL.out ?_) | ((with_reducible show wpList _ _ _ ({ dst := _, op := Op.binOp .neq 27 _ _ _, type := _, pos := _, after := _, guard := _ } :: _) _ _); refine NeqKit.wpList_neq_g (by rfl) rfl rfl rfl DiskSame.guard_b HEB.out ?_))
                go_roundw
                case rel => exact ⟨k + 1, by have := HKN.out; omega, by go_num, HG2.out⟩
                case measure => have := HKN.out; simp [intOf]; omega
              · have HR1 : Hid (∀ W, DAt W w.heap.size d y1 y2 y3 y4 → RV W m aM cM → Calls Tryd.prog 22 #[.pointer (some ⟨w.heap.size, 0, none⟩), .agg (rval m aM cM), .int .i64 (k : Int)] W fun e w' => e = .returned (readV (rdX d m (k : Int))) ∧ Fr0 W w') := Lib.hid (fun W h1 h2 => HRE.out _ _ _ _ _ _ _ _ _ (HWF.out k hkN) h1 h2)
                have HR2 : Hid (∀ W, DAt W xA D1 z1 z2 z3 z4 → RV W M1 aP cP → Calls Tryd.prog 22 #[.pointer (some ⟨xA, 0, none⟩), .agg (rval M1 aP cP), .int .i64 (k : Int)] W fun e w' => e = .returned (readV (rdX d m (k : Int))) ∧ Fr0 W w') := Lib.hid (fun W h1 h2 => by have := HRF.out (k : Int) _ _ _ _ _ _ _ _ (HWF.out k hkN) h1 h2; rwa [HBB.out.2 _ hkn] at this)
                have HIK := Lib.hid (info_l (HLK.out (k : Int)))
                have HSK := Lib.hid (size_l (HLK.out (k : Int)))
                have HOK2 := Lib.hid (one_l (rdX d m (k : Int)).1)
                have HIQ := Lib.hid HIK.out
                have HSQ := Lib.hid HSK.out
                have HOQ := Lib.hid HOK2.out
                have HEB := Lib.hid (HEQ.out _ (HLK.out (k : Int)))
                have hk1 : ((k : Int) == n) = false := by simpa using hkn
                have hk2 : ((k : Int) != n) = true := by simpa using hkn
                unfold readV at HR1 HR2
                try simp only at HR1 HR2
                generalize ((rdX d m (k : Int)).1.map B).toArray = LK at *
                generalize (rdX d m (k : Int)).2 = ek at *
                have hee : (ek != ek) = false := by simp
                clear hkn
                go_wp2_with (first | ((with_reducible show wpList _ _ _ ({ dst := _, op := Op.load 24 _, type := _, pos := _, after := _, guard := _ } :: _) _ _); refine wpList_load_row_g (by rfl) 24 _ rfl (w.heap.size + 1) rfl 24 (rval m aM cM) (0, 0) _ HM0.out Tryd.underlying24 rfl (HIR.out _ _ _) ?_) | (go_at_call 22; (with_reducible refine (HR1.out _ HA0.out HMV0.out).mono ?_); rintro e wB ⟨rfl, hfB⟩; have HZB := Lib.hid (Bk.new wB (.cells ZB 27)); have hfx : Fr0 wr ((wB.alloc (.cells ZB 27)).setRow wB.heap.size LK) := hfB.then0 (ArrKit.Fr.row (Fr.alloc (Fr.refl _ _) _) _ _ (.inl (Nat.le_refl _))); have HA1 := Lib.hid (DAt.keep HA0.out hfx); have HM1 := Lib.hid (Fr.keep hfx HM0.out (fun h => h)); have HMV1 := Lib.hid (RV.keep HMV0.out hfx); have HB1 := Lib.hid (DAt.keep HB0.out hfx); have HN1 := Lib.hid (Fr.keep hfx HN0.out (fun h => h)); have HNV1 := Lib.hid (RV.keep HNV0.out hfx); have HZL1 := Lib.hid (Fr.keep hfx HZL0.out (fun h => h)); have HG1 := Lib.hid (HG0.out.then0 hfx); have HK1 : Hid (Bk ((wB.alloc (.cells ZB 27)).setRow wB.heap.size LK) wB.heap.size LK 27) := Lib.hid (ArrKit.Bk.row HZB.out _); clear hfB hfx) | ((with_reducible show wpList _ _ _ ({ dst := _, op := Op.store 27 _ _, type := _, pos := _, after := _, guard := _ } :: _) _ _); refine wpList_store_row rfl 27 _ _ rfl wB.heap.size LK rfl rfl 27 ZB HZB.out HIK.out HSK.out HOK2.out ?_) | ((with_reducible show wpList _ _ _ ({ dst := _, op := Op.load 24 _, type := _, pos := _, after := _, guard := _ } :: _) _ _); refine wpList_load_row_g (by rfl) 24 _ rfl rA rfl 24 (rval M1 aP cP) (0, 0) _ HN1.out Tryd.underlying24 rfl (HIR.out _ _ _) ?_) | (go_at_call 22; (with_reducible refine (HR2.out _ HB1.out HNV1.out).mono ?_); rintro e wC ⟨rfl, hfC⟩; have HZC := Lib.hid (Bk.new wC (.cells ZB 27)); have hfx : Fr0 ((wB.alloc (.cells ZB 27)).setRow wB.heap.size LK) ((wC.alloc (.cells ZB 27)).setRow wC.heap.size LK) := hfC.then0 (ArrKit.Fr.row (Fr.alloc (Fr.refl _ _) _) _ _ (.inl (Nat.le_refl _))); have HA2 := Lib.hid (DAt.keep HA1.out hfx); have HM2 := Lib.hid (Fr.keep hfx HM1.out (fun h => h)); have HMV2 := Lib.hid (RV.keep HMV1.out hfx); have HB2 := Lib.hid (DAt.keep HB1.out hfx); have HN2 := Lib.hid (Fr.keep hfx HN1.out (fun h => h)); have HNV2 := Lib.hid (RV.keep HNV1.out hfx); have HZL2 := Lib.hid (Fr.keep hfx HZL1.out (fun h => h)); have HG2 := Lib.hid (HG1.out.then0 hfx); have HK2 := Lib.hid (Fr.keep hfx HK1.out (fun h => h)); have HQ2 : Hid (Bk ((wC.alloc (.cells ZB 27)).setRow wC.heap.size LK) wC.heap.size LK 27) := Lib.hid (ArrKit.Bk.row HZC.out _); have l20 := lay_cell HZL2.out; clear hfC hfx) | ((with_reducible show wpList _ _ _ ({ dst := _, op := Op.store 27 _ _, type := _, pos := _, after := _, guard := _ } :: _) _ _); refine wpList_store_row rfl 27 _ _ rfl wC.heap.size LK rfl rfl 27 ZB HZC.out HIQ.out HSQ.out HOQ.out ?_) | ((with_reducible show wpList _ _ _ ({ dst := _, op := Op.load 27 (Operand.tmp 16), type := _, pos := _, after := _, guard := _ } :: _) _ _); refine wpList_load_row_g (by rfl) 27 _ rfl wC.heap.size rfl 27 LK (0, 0) _ HQ2.out Tryd.underlying27 rfl HIQ.out ?_) | ((with_reducible show wpList _ _ _ ({ dst := _, op := Op.load 27 (Operand.tmp 14), type := _, pos := _, after := _, guard := _ } :: _) _ _); refine wpList_load_row_g (by rfl) 27 _ rfl wB.heap.size rfl 27 LK (0, 0) _ HK2.out Tryd.underlying27 rfl HIK.out ?_) | ((with_reducible show wpList _ _ _ ({ dst := _, op := Op.binOp .neq 27 _ _ _, type := _, pos := _, after := _, guard := _ } :: _) _ _); refine NeqKit.wpList_neq_g (by rfl) rfl rfl rfl DiskSame.guard_b HEB.out ?_))
                go_roundw
                case rel => exact ⟨k + 1, by have := HKN.out; omega, by go_num, HG2.out⟩
                case measure => have := HKN.out; simp [intOf]; omega
            · have hke : k = N := by omega
              subst hke
              go_wp2
              go_ret
              exact ⟨rfl, HF9.out.then0 HG0.out⟩
        · have hEn : (E != 0) = true := by simpa using hE0
          clear hE0
          go_wp2_with (first | ((with_reducible show wpList _ _ _ ({ dst := _, op := Op.load 24 _, type := _, pos := _, after := _, guard := _ } :: _) _ _); refine wpList_load_row_g (by rfl) 24 _ rfl rA rfl 24 (rval m a2 k2) (0, 0) _ HQ3.out Tryd.underlying24 rfl (HIR.out _ _ _) ?_) | (go_at_call 11; (with_reducible refine (HPU.out _ _ _ HF3.out HRV3.out).mono ?_); rintro e w4 ⟨rfl, hf4⟩; have HZ4 := Lib.hid (Bk.new w4 (.cells ZB 27)); have hfx : Fr0 wE ((w4.alloc (.cells ZB 27)).setRow w4.heap.size LT) := hf4.then0 (ArrKit.Fr.row (Fr.alloc (Fr.refl _ _) _) _ _ (.inl (Nat.le_refl _))); have HX5 := Lib.hid (Fr.keep hfx HX3.out (fun h => h)); have HY5 := Lib.hid (Fr.keep hfx HY3.out (fun h => h)); have HL5 := Lib.hid (Fr.keep hfx HL3.out (fun h => h)); have HQ5 := Lib.hid (Fr.keep hfx HQ3.out (fun h => h)); have HP5 := Lib.hid (DAt.keep HP3.out hfx); have HRV5 := Lib.hid (RV.keep HRV3.out hfx); have HF5 := Lib.hid (HF3.out.then0 hfx); have HT5 : Hid (Bk ((w4.alloc (.cells ZB 27)).setRow w4.heap.size LT) w4.heap.size LT 27) := Lib.hid (ArrKit.Bk.row HZ4.out _); have x50 : ((w4.alloc (.cells ZB 27)).setRow w4.heap.size LT).cell? ⟨w.heap.size, 0, none⟩ = some (.slice sa N sc) := (Bk.cell HX5.out 0).trans (by rw [← HNN.out]; rfl); clear hf4 hfx) | ((with_reducible show wpList _ _ _ ({ dst := _, op := Op.store 27 _ _, type := _, pos := _, after := _, guard := _ } :: _) _ _); refine wpList_store_row rfl 27 _ _ rfl w4.heap.size LT rfl rfl 27 ZB HZ4.out HIT.out HST.out HOT.out ?_) | ((with_reducible show wpList _ _ _ ({ dst := _, op := Op.load 27 _, type := _, pos := _, after := _, guard := _ } :: _) _ _); refine wpList_load_row_g (by rfl) 27 _ rfl w4.heap.size rfl 27 LT (0, 0) _ HT5.out Tryd.underlying27 rfl HIT.out ?_) | (go_at_call 27; (with_reducible refine (HTA.out _ HF5.out).mono ?_); rintro e w6 ⟨a6, c6, rfl, hv6, hf6⟩; have HZ6 := Lib.hid (Bk.new w6 (.cells RZ 24)); have hfr : Fr0 w6 ((w6.alloc (.cells RZ 24)).setRow w6.heap.size (rval TX a6 c6)) := ArrKit.Fr.row (Fr.alloc (Fr.refl _ _) _) _ _ (.inl (Nat.le_refl _)); have hfx := hf6.then0 hfr; have HX7 := Lib.hid (Fr.keep hfx HX5.out (fun h => h)); have HY7 := Lib.hid (Fr.keep hfx HY5.out (fun h => h)); have HL7 := Lib.hid (Fr.keep hfx HL5.out (fun h => h)); have HQ7 := Lib.hid (Fr.keep hfx HQ5.out (fun h => h)); have HP7 := Lib.hid (DAt.keep HP5.out hfx); have HRV7 := Lib.hid (RV.keep HRV5.out hfx); have HF7 := Lib.hid (HF5.out.then0 hfx); have HU7 : Hid (Bk ((w6.alloc (.cells RZ 24)).setRow w6.heap.size (rval TX a6 c6)) w6.heap.size (rval TX a6 c6) 24) := Lib.hid (ArrKit.Bk.row HZ6.out _); have HUV7 : Hid (RV ((w6.alloc (.cells RZ 24)).setRow w6.heap.size (rval TX a6 c6)) TX a6 c6) := Lib.hid (hv6.keep hfr); have l70 := lay_cell HL7.out; clear hv6 hf6 hfr hfx) | ((with_reducible show wpList _ _ _ ({ dst := _, op := Op.store 24 _ _, type := _, pos := _, after := _, guard := _ } :: _) _ _); refine wpList_store_row rfl 24 _ _ rfl w6.heap.size (rval TX a6 c6) rfl rfl 24 RZ HZ6.out (HIR.out _ _ _) rfl (HRO.out _ _ _) ?_) | ((with_reducible show wpList _ _ _ ({ dst := _, op := Op.load 27 _, type := _, pos := _, after := _, guard := _ } :: _) _ _); refine wpList_load_mid_g (by rfl) 27 _ rfl (w.heap.size + 1 + 1) 1 rfl (b.map B) _ (lay_range HL7.out) Tryd.underlying27 rfl HIL.out ?_) | (go_at_call 25; (with_reducible refine (HWA.out HC9.out _ _ _ HNE.out.2.2 (HSH.out.keep0 HF7.out) (PS.of HP7.out HQ7.out HRV7.out)).mono ?_); rintro e w9 ⟨rfl, hps9, hf9⟩; have HPS := Lib.hid hps9; have HD9 : Hid (PS w9 w.heap.size (w.heap.size + 1) d m) := Lib.hid (PS.past (PS.of ⟨HX7.out, HV.out.keep HF7.out⟩ HY7.out (HR.out.keep HF7.out)) HOK.out (PS.of HP7.out HQ7.out HRV7.out) hf9 HNE.out.2.2 (by have := HNE.out; omega) (by have := HNE.out; omega) (by have := HNE.out; omega) (by have := HNE.out; omega)); have HL9 := Lib.hid (hf9.keep HL7.out (by have := HNE.out; omega)); have HF9 : Hid (Fr0 w w9) := Lib.hid (HF7.out.then hf9 (fun i hi e => by have := HNE.out; omega)); clear hps9 hf9))
          go_ret
          exact ⟨rfl, HF9.out⟩
      )
    clear hKA
    refine wp_region_noPanic ?_
    refine wp_region_held_drew (S := (fun W : World => Fr (fun _ => False) w2 W)) (by kernel_rfl) (Fr.drew (Fr.refl _ _)) (fun hHeld0 => ?_)
    generalize w2.drew = wd at *
    change wpAnyH _ _ _ _ _ 8 #[false, false, false, false, false, false, false, false] _ _
    refine wpAnyH_take (i := 0) (v := .agg (dval d sa sc ca cc)) rfl (by kernel_rfl) (by kernel_rfl) (by kernel_rfl) (fun _ _ _ h => h) (yields_row (by kernel_rfl) 39 _ rfl (w.heap.size) rfl 39 (dval d sa sc ca cc) (0, 0) _ (fun _ h => Fr.keep h HX2.out (fun h => h)) Tryd.underlying39 rfl (HID.out _ _ _ _ _)) hHeld0 ?_
    simp only [Act.put, List.getElem_toArray, List.getElem_cons_succ, List.getElem_cons_zero, List.setIfInBounds_toArray, List.set_cons_zero, List.set_cons_succ]
    change wpAnyH _ _ _ _ _ 7 #[true, false, false, false, false, false, false, false] _ _
    refine wpAnyH_take (i := 2) (v := .agg (rval m a c)) rfl (by kernel_rfl) (by kernel_rfl) (by kernel_rfl) (fun _ _ _ h => h) (yields_row (by kernel_rfl) 24 _ rfl (w.heap.size + 1) rfl 24 (rval m a c) (0, 0) _ (fun _ h => Fr.keep h HY2.out (fun h => h)) Tryd.underlying24 rfl (HIR.out _ _ _)) hHeld0 ?_
    simp only [Act.put, List.getElem_toArray, List.getElem_cons_succ, List.getElem_cons_zero, List.setIfInBounds_toArray, List.set_cons_zero, List.set_cons_succ]
    change wpAnyH _ _ _ _ _ 6 #[true, false, true, false, false, false, false, false] _ _
    refine wpAnyH_ready (rs := [1, 4, 5]) (by kernel_rfl) (by simp) ?_
    refine AllReadyH.cons rfl (fun K hK => ?_) (AllReadyH.cons rfl (fun K hK => ?_) (AllReadyH.cons rfl (fun K hK => ?_) (AllReadyH.nil)))
    · simp only [List.getElem_toArray, List.getElem_cons_succ, List.getElem_cons_zero]
      refine (if_pos (by kernel_rfl)).mpr ?_
      go_wp2_with fail
      refine (HDC.out _ (HF2.out.then0 hHeld0)).mono ?_
      rintro e wx0 ⟨s1, n1, c1, m1, rfl, hown0, hfx0⟩
      dsimp only
      have HO0 := Lib.hid hown0
      clear hown0
      refine hK.out _ _ (hHeld0.then0 hfx0) (fun hHeld1 => ?_)
      clear hK K hHeld0
      clear hfx0
      change wpAnyH _ _ _ _ _ 5 #[true, true, true, false, false, false, false, false] _ _
      refine wpAnyH_ready (rs := [3, 4, 5]) (by kernel_rfl) (by simp) ?_
      refine AllReadyH.cons rfl (fun K hK => ?_) (AllReadyH.cons rfl (fun K hK => ?_) (AllReadyH.cons rfl (fun K hK => ?_) (AllReadyH.nil)))
      · simp only [List.getElem_toArray, List.getElem_cons_succ, List.getElem_cons_zero]
        refine (if_pos (by kernel_rfl)).mpr ?_
        go_wp2_with fail
        refine (HRC.out _ (HF2.out.then0 hHeld1)).mono ?_
        rintro e wx1 ⟨a2, k2, rfl, hown1, hfx1⟩
        dsimp only
        have HO0' := Lib.hid (DV.keep HO0.out hfx1)
        clear HO0
        have HO0 := HO0'
        clear HO0'
        have HO1 := Lib.hid hown1
        clear hown1
        refine hK.out _ _ (hHeld1.then0 hfx1) (fun hHeld2 => ?_)
        clear hK K hHeld1
        clear hfx1
        change wpAnyH _ _ _ _ _ 4 #[true, true, true, true, false, false, false, false] _ _
        refine wpAnyH_ready (rs := [4, 5]) (by kernel_rfl) (by simp) ?_
        refine AllReadyH.cons rfl (fun K hK => ?_) (AllReadyH.cons rfl (fun K hK => ?_) (AllReadyH.nil))
        · simp only [List.getElem_toArray, List.getElem_cons_succ, List.getElem_cons_zero]
          refine (if_pos (by kernel_rfl)).mpr ?_
          go_wp2_with fail
          have hfx2 : Fr (fun _ => False) wx1 (wx1.alloc (.cells DZ 39)) := Fr.alloc (Fr.refl _ _) _
          have HLO0 : Hid (w2.heap.size ≤ wx1.heap.size) := Lib.hid (Fr.size hHeld2)
          have HO0' := Lib.hid (DV.keep HO0.out hfx2)
          clear HO0
          have HO0 := HO0'
          clear HO0'
          have HO1' := Lib.hid (RV.keep HO1.out hfx2)
          clear HO1
          have HO1 := HO1'
          clear HO1'
          have HZ0 : Hid (Bk (wx1.alloc (.cells DZ 39)) wx1.heap.size DZ 39) := Lib.hid (Bk.new wx1 _)
          have HB0 : Hid (wx1.heap.size < (wx1.alloc (.cells DZ 39)).heap.size) := Lib.hid (Bk.lt HZ0.out)
          refine hK.out _ _ (hHeld2.then0 hfx2) (fun hHeld3 => ?_)
          clear hK K hHeld2
          clear hfx2
          generalize wx1.heap.size = pA at *
          generalize (wx1.alloc (.cells DZ 39)) = wx2 at *
          change wpAnyH _ _ _ _ _ 3 #[true, true, true, true, true, false, false, false] _ _
          refine wpAnyH_ready (rs := [5]) (by kernel_rfl) (by simp) ?_
          refine AllReadyH.cons rfl (fun K hK => ?_) AllReadyH.nil
          simp only [List.getElem_toArray, List.getElem_cons_succ, List.getElem_cons_zero]
          refine (if_pos (by kernel_rfl)).mpr ?_
          go_wp2_with fail
          have hfx3 : Fr (fun _ => False) wx2 (wx2.alloc (.cells RZ 24)) := Fr.alloc (Fr.refl _ _) _
          have HLO1 : Hid (w2.heap.size ≤ wx2.heap.size) := Lib.hid (Fr.size hHeld3)
          have HPQ : Hid (pA ≠ wx2.heap.size) := Lib.hid (by have h1 := Bk.lt HZ0.out; omega)
          have HO0' := Lib.hid (DV.keep HO0.out hfx3)
          clear HO0
          have HO0 := HO0'
          clear HO0'
          have HO1' := Lib.hid (RV.keep HO1.out hfx3)
          clear HO1
          have HO1 := HO1'
          clear HO1'
          have HZ0' := Lib.hid (hfx3.keep HZ0.out (fun h => h))
          clear HZ0
          have HZ0 := HZ0'
          clear HZ0'
          have HZ1 : Hid (Bk (wx2.alloc (.cells RZ 24)) wx2.heap.size RZ 24) := Lib.hid (Bk.new wx2 _)
          have HB1 : Hid (wx2.heap.size < (wx2.alloc (.cells RZ 24)).heap.size) := Lib.hid (Bk.lt HZ1.out)
          have HB0' : Hid (pA < (wx2.alloc (.cells RZ 24)).heap.size) := Lib.hid (Bk.lt HZ0.out)
          clear HB0
          have HB0 := HB0'
          clear HB0'
          refine hK.out _ _ (hHeld3.then0 hfx3) (fun hHeld4 => ?_)
          clear hK K hHeld3
          clear hfx3
          generalize wx2.heap.size = pB at *
          generalize (wx2.alloc (.cells RZ 24)) = wx3 at *
          change wpAnyH _ _ _ _ _ 2 #[true, true, true, true, true, true, false, false] _ _
          refine wpAnyH_ready (rs := [6]) (by kernel_rfl) (by simp) ?_
          refine AllReadyH.cons rfl (fun K hK => ?_) AllReadyH.nil
          simp only [List.getElem_toArray, List.getElem_cons_succ, List.getElem_cons_zero]
          refine (if_pos (by kernel_rfl)).mpr ?_
          refine wp_store_row 39 _ _ rfl pA (dval d s1 n1 c1 m1) rfl rfl 39 DZ HZ0.out (HID.out _ _ _ _ _) rfl (HDO.out _ _ _ _ _) ?_
          have hfx4 := Fr.row1 wx3 pA (dval d s1 n1 c1 m1)
          have HO0' := Lib.hid (DV.past HO0.out HOK.out hfx4 HZ0.out DZ_no)
          clear HO0
          have HO0 := HO0'
          clear HO0'
          have HO1' := Lib.hid (RV.past HO1.out hfx4 (show Bk _ _ (dval ⟨[], [], 0, false⟩ none 0 none 0) 39 from HZ0.out))
          clear HO1
          have HO1 := HO1'
          clear HO1'
          have HZ1' := Lib.hid ((show Bk (wx3.setRow pA (dval d s1 n1 c1 m1)) pB RZ 24 from ArrKit.Bk.rowOther HZ1.out _ (HPQ.out.symm)))
          clear HZ1
          have HZ1 := HZ1'
          clear HZ1'
          have HX0' : Hid (Bk (wx3.setRow pA (dval d s1 n1 c1 m1)) pA (dval d s1 n1 c1 m1) 39) := Lib.hid (ArrKit.Bk.row HZ0.out _)
          clear HZ0
          have HZ0 := HX0'
          clear HX0'
          refine hK.out _ _ (ArrKit.Fr.row hHeld4 _ _ (.inl HLO0.out)) (fun hHeld5 => ?_)
          clear hK K hHeld4
          clear hfx4
          generalize (wx3.setRow pA (dval d s1 n1 c1 m1)) = wx4 at *
          change wpAnyH _ _ _ _ _ 1 #[true, true, true, true, true, true, true, false] _ _
          refine wpAnyH_ready (rs := [7]) (by kernel_rfl) (by simp) ?_
          refine AllReadyH.cons rfl (fun K hK => ?_) AllReadyH.nil
          simp only [List.getElem_toArray, List.getElem_cons_succ, List.getElem_cons_zero]
          refine (if_pos (by kernel_rfl)).mpr ?_
          refine wp_store_row 24 _ _ rfl pB (rval m a2 k2) rfl rfl 24 RZ HZ1.out (HIR.out _ _ _) rfl (HRO.out _ _ _) ?_
          have hfx5 := Fr.row1 wx4 pB (rval m a2 k2)
          have HO0' := Lib.hid (DV_past HO0.out HOK.out hfx5 HZ1.out (rc_no 0 none 0 0))
          clear HO0
          have HO0 := HO0'
          clear HO0'
          have HO1' := Lib.hid (RV.pastR HO1.out hfx5 HZ1.out)
          clear HO1
          have HO1 := HO1'
          clear HO1'
          have HZ0' := Lib.hid ((show Bk (wx4.setRow pB (rval m a2 k2)) pA (dval d s1 n1 c1 m1) 39 from ArrKit.Bk.rowOther HZ0.out _ (HPQ.out)))
          clear HZ0
          have HZ0 := HZ0'
          clear HZ0'
          have HX1' : Hid (Bk (wx4.setRow pB (rval m a2 k2)) pB (rval m a2 k2) 24) := Lib.hid (ArrKit.Bk.row HZ1.out _)
          clear HZ1
          have HZ1 := HX1'
          clear HX1'
          refine hK.out _ _ (ArrKit.Fr.row hHeld5 _ _ (.inl HLO1.out)) (fun hHeld6 => ?_)
          clear hK K hHeld5
          clear hfx5
          generalize (wx4.setRow pB (rval m a2 k2)) = wx5 at *
          change wpAnyH _ _ _ _ _ 0 #[true, true, true, true, true, true, true, true] _ _
          refine wpAnyH_done (by kernel_rfl) ?_ _
          refine NoPanic.normal ?_
          have HEND := Lib.hid hHeld6
          clear hHeld6
          exact HREST.out wx5 pA pB s1 n1 c1 m1 a2 k2 HEND.out ⟨HZ0.out, HO0.out⟩ HZ1.out HO1.out HPQ.out HLO0.out HLO1.out
        · simp only [List.getElem_toArray, List.getElem_cons_succ, List.getElem_cons_zero]
          refine (if_pos (by kernel_rfl)).mpr ?_
          go_wp2_with fail
          have hfx2 : Fr (fun _ => False) wx1 (wx1.alloc (.cells RZ 24)) := Fr.alloc (Fr.refl _ _) _
          have HLO1 : Hid (w2.heap.size ≤ wx1.heap.size) := Lib.hid (Fr.size hHeld2)
          have HO0' := Lib.hid (DV.keep HO0.out hfx2)
          clear HO0
          have HO0 := HO0'
          clear HO0'
          have HO1' := Lib.hid (RV.keep HO1.out hfx2)
          clear HO1
          have HO1 := HO1'
          clear HO1'
          have HZ1 : Hid (Bk (wx1.alloc (.cells RZ 24)) wx1.heap.size RZ 24) := Lib.hid (Bk.new wx1 _)
          have HB1 : Hid (wx1.heap.size < (wx1.alloc (.cells RZ 24)).heap.size) := Lib.hid (Bk.lt HZ1.out)
          refine hK.out _ _ (hHeld2.then0 hfx2) (fun hHeld3 => ?_)
          clear hK K hHeld2
          clear hfx2
          generalize wx1.heap.size = pB at *
          generalize (wx1.alloc (.cells RZ 24)) = wx2 at *
          change wpAnyH _ _ _ _ _ 3 #[true, true, true, true, false, true, false, false] _ _
          refine wpAnyH_ready (rs := [4]) (by kernel_rfl) (by simp) ?_
          refine AllReadyH.cons rfl (fun K hK => ?_) AllReadyH.nil
          simp only [List.getElem_toArray, List.getElem_cons_succ, List.getElem_cons_zero]
          refine (if_pos (by kernel_rfl)).mpr ?_
          go_wp2_with fail
          have hfx3 : Fr (fun _ => False) wx2 (wx2.alloc (.cells DZ 39)) := Fr.alloc (Fr.refl _ _) _
          have HLO0 : Hid (w2.heap.size ≤ wx2.heap.size) := Lib.hid (Fr.size hHeld3)
          have HPQ : Hid (wx2.heap.size ≠ pB) := Lib.hid (by have h1 := Bk.lt HZ1.out; omega)
          have HO0' := Lib.hid (DV.keep HO0.out hfx3)
          clear HO0
          have HO0 := HO0'
          clear HO0'
          have HO1' := Lib.hid (RV.keep HO1.out hfx3)
          clear HO1
          have HO1 := HO1'
          clear HO1'
          have HZ1' := Lib.hid (hfx3.keep HZ1.out (fun h => h))
          clear HZ1
          have HZ1 := HZ1'
          clear HZ1'
          have HZ0 : Hid (Bk (wx2.alloc (.cells DZ 39)) wx2.heap.size DZ 39) := Lib.hid (Bk.new wx2 _)
          have HB0 : Hid (wx2.heap.size < (wx2.alloc (.cells DZ 39)).heap.size) := Lib.hid (Bk.lt HZ0.out)
          have HB1' : Hid (pB < (wx2.alloc (.cells DZ 39)).heap.size) := Lib.hid (Bk.lt HZ1.out)
          clear HB1
          have HB1 := HB1'
          clear HB1'
          refine hK.out _ _ (hHeld3.then0 hfx3) (fun hHeld4 => ?_)
          clear hK K hHeld3
          clear hfx3
          generalize wx2.heap.size = pA at *
          generalize (wx2.alloc (.cells DZ 39)) = wx3 at *
          change wpAnyH _ _ _ _ _ 2 #[true, true, true, true, true, true, false, false] _ _
          refine wpAnyH_ready (rs := [6]) (by kernel_rfl) (by simp) ?_
          refine AllReadyH.cons rfl (fun K hK => ?_) AllReadyH.nil
          simp only [List.getElem_toArray, List.getElem_cons_succ, List.getElem_cons_zero]
          refine (if_pos (by kernel_rfl)).mpr ?_
          refine wp_store_row 39 _ _ rfl pA (dval d s1 n1 c1 m1) rfl rfl 39 DZ HZ0.out (HID.out _ _ _ _ _) rfl (HDO.out _ _ _ _ _) ?_
          have hfx4 := Fr.row1 wx3 pA (dval d s1 n1 c1 m1)
          have HO0' := Lib.hid (DV.past HO0.out HOK.out hfx4 HZ0.out DZ_no)
          clear HO0
          have HO0 := HO0'
          clear HO0'
          have HO1' := Lib.hid (RV.past HO1.out hfx4 (show Bk _ _ (dval ⟨[], [], 0, false⟩ none 0 none 0) 39 from HZ0.out))
          clear HO1
          have HO1 := HO1'
          clear HO1'
          have HZ1' := Lib.hid ((show Bk (wx3.setRow pA (dval d s1 n1 c1 m1)) pB RZ 24 from ArrKit.Bk.rowOther HZ1.out _ (HPQ.out.symm)))
          clear HZ1
          have HZ1 := HZ1'
          clear HZ1'
          have HX0' : Hid (Bk (wx3.setRow pA (dval d s1 n1 c1 m1)) pA (dval d s1 n1 c1 m1) 39) := Lib.hid (ArrKit.Bk.row HZ0.out _)
          clear HZ0
          have HZ0 := HX0'
          clear HX0'
          refine hK.out _ _ (ArrKit.Fr.row hHeld4 _ _ (.inl HLO0.out)) (fun hHeld5 => ?_)
          clear hK K hHeld4
          clear hfx4
          generalize (wx3.setRow pA (dval d s1 n1 c1 m1)) = wx4 at *
          change wpAnyH _ _ _ _ _ 1 #[true, true, true, true, true, true, true, false] _ _
          refine wpAnyH_ready (rs := [7]) (by kernel_rfl) (by simp) ?_
          refine AllReadyH.cons rfl (fun K hK => ?_) AllReadyH.nil
          simp only [List.getElem_toArray, List.getElem_cons_succ, List.getElem_cons_zero]
          refine (if_pos (by kernel_rfl)).mpr ?_
          refine wp_store_row 24 _ _ rfl pB (rval m a2 k2) rfl rfl 24 RZ HZ1.out (HIR.out _ _ _) rfl (HRO.out _ _ _) ?_
          have hfx5 := Fr.row1 wx4 pB (rval m a2 k2)
          have HO0' := Lib.hid (DV_past HO0.out HOK.out hfx5 HZ1.out (rc_no 0 none 0 0))
          clear HO0
          have HO0 := HO0'
          clear HO0'
          have HO1' := Lib.hid (RV.pastR HO1.out hfx5 HZ1.out)
          clear HO1
          have HO1 := HO1'
          clear HO1'
          have HZ0' := Lib.hid ((show Bk (wx4.setRow pB (rval m a2 k2)) pA (dval d s1 n1 c1 m1) 39 from ArrKit.Bk.rowOther HZ0.out _ (HPQ.out)))
          clear HZ0
          have HZ0 := HZ0'
          clear HZ0'
          have HX1' : Hid (Bk (wx4.setRow pB (rval m a2 k2)) pB (rval m a2 k2) 24) := Lib.hid (ArrKit.Bk.row HZ1.out _)
          clear HZ1
          have HZ1 := HX1'
          clear HX1'
          refine hK.out _ _ (ArrKit.Fr.row hHeld5 _ _ (.inl HLO1.out)) (fun hHeld6 => ?_)
          clear hK K hHeld5
          clear hfx5
          generalize (wx4.setRow pB (rval m a2 k2)) = wx5 at *
          change wpAnyH _ _ _ _ _ 0 #[true, true, true, true, true, true, true, true] _ _
          refine wpAnyH_done (by kernel_rfl) ?_ _
          refine NoPanic.normal ?_
          have HEND := Lib.hid hHeld6
          clear hHeld6
          exact HREST.out wx5 pA pB s1 n1 c1 m1 a2 k2 HEND.out ⟨HZ0.out, HO0.out⟩ HZ1.out HO1.out HPQ.out HLO0.out HLO1.out
      · simp only [List.getElem_toArray, List.getElem_cons_succ, List.getElem_cons_zero]
        refine (if_pos (by kernel_rfl)).mpr ?_
        go_wp2_with fail
        have hfx1 : Fr (fun _ => False) wx0 (wx0.alloc (.cells DZ 39)) := Fr.alloc (Fr.refl _ _) _
        have HLO0 : Hid (w2.heap.size ≤ wx0.heap.size) := Lib.hid (Fr.size hHeld1)
        have HO0' := Lib.hid (DV.keep HO0.out hfx1)
        clear HO0
        have HO0 := HO0'
        clear HO0'
        have HZ0 : Hid (Bk (wx0.alloc (.cells DZ 39)) wx0.heap.size DZ 39) := Lib.hid (Bk.new wx0 _)
        have HB0 : Hid (wx0.heap.size < (wx0.alloc (.cells DZ 39)).heap.size) := Lib.hid (Bk.lt HZ0.out)
        refine hK.out _ _ (hHeld1.then0 hfx1) (fun hHeld2 => ?_)
        clear hK K hHeld1
        clear hfx1
        generalize wx0.heap.size = pA at *
        generalize (wx0.alloc (.cells DZ 39)) = wx1 at *
        change wpAnyH _ _ _ _ _ 4 #[true, true, true, false, true, false, false, false] _ _
        refine wpAnyH_ready (rs := [3, 5]) (by kernel_rfl) (by simp) ?_
        refine AllReadyH.cons rfl (fun K hK => ?_) (AllReadyH.cons rfl (fun K hK => ?_) (AllReadyH.nil))
        · simp only [List.getElem_toArray, List.getElem_cons_succ, List.getElem_cons_zero]
          refine (if_pos (by kernel_rfl)).mpr ?_
          go_wp2_with fail
          refine (HRC.out _ (HF2.out.then0 hHeld2)).mono ?_
          rintro e wx2 ⟨a2, k2, rfl, hown1, hfx2⟩
          dsimp only
          have HO0' := Lib.hid (DV.keep HO0.out hfx2)
          clear HO0
          have HO0 := HO0'
          clear HO0'
          have HZ0' := Lib.hid (hfx2.keep HZ0.out (fun h => h))
          clear HZ0
          have HZ0 := HZ0'
          clear HZ0'
          have HO1 := Lib.hid hown1
          clear hown1
          have HB0' : Hid (pA < wx2.heap.size) := Lib.hid (Bk.lt HZ0.out)
          clear HB0
          have HB0 := HB0'
          clear HB0'
          refine hK.out _ _ (hHeld2.then0 hfx2) (fun hHeld3 => ?_)
          clear hK K hHeld2
          clear hfx2
          change wpAnyH _ _ _ _ _ 3 #[true, true, true, true, true, false, false, false] _ _
          refine wpAnyH_ready (rs := [5]) (by kernel_rfl) (by simp) ?_
          refine AllReadyH.cons rfl (fun K hK => ?_) AllReadyH.nil
          simp only [List.getElem_toArray, List.getElem_cons_succ, List.getElem_cons_zero]
          refine (if_pos (by kernel_rfl)).mpr ?_
          go_wp2_with fail
          have hfx3 : Fr (fun _ => False) wx2 (wx2.alloc (.cells RZ 24)) := Fr.alloc (Fr.refl _ _) _
          have HLO1 : Hid (w2.heap.size ≤ wx2.heap.size) := Lib.hid (Fr.size hHeld3)
          have HPQ : Hid (pA ≠ wx2.heap.size) := Lib.hid (by have h1 := Bk.lt HZ0.out; omega)
          have HO0' := Lib.hid (DV.keep HO0.out hfx3)
          clear HO0
          have HO0 := HO0'
          clear HO0'
          have HZ0' := Lib.hid (hfx3.keep HZ0.out (fun h => h))
          clear HZ0
          have HZ0 := HZ0'
          clear HZ0'
          have HO1' := Lib.hid (RV.keep HO1.out hfx3)
          clear HO1
          have HO1 := HO1'
          clear HO1'
          have HZ1 : Hid (Bk (wx2.alloc (.cells RZ 24)) wx2.heap.size RZ 24) := Lib.hid (Bk.new wx2 _)
          have HB1 : Hid (wx2.heap.size < (wx2.alloc (.cells RZ 24)).heap.size) := Lib.hid (Bk.lt HZ1.out)
          have HB0' : Hid (pA < (wx2.alloc (.cells RZ 24)).heap.size) := Lib.hid (Bk.lt HZ0.out)
          clear HB0
          have HB0 := HB0'
          clear HB0'
          refine hK.out _ _ (hHeld3.then0 hfx3) (fun hHeld4 => ?_)
          clear hK K hHeld3
          clear hfx3
          generalize wx2.heap.size = pB at *
          generalize (wx2.alloc (.cells RZ 24)) = wx3 at *
          change wpAnyH _ _ _ _ _ 2 #[true, true, true, true, true, true, false, false] _ _
          refine wpAnyH_ready (rs := [6]) (by kernel_rfl) (by simp) ?_
          refine AllReadyH.cons rfl (fun K hK => ?_) AllReadyH.nil
          simp only [List.getElem_toArray, List.getElem_cons_succ, List.getElem_cons_zero]
          refine (if_pos (by kernel_rfl)).mpr ?_
          refine wp_store_row 39 _ _ rfl pA (dval d s1 n1 c1 m1) rfl rfl 39 DZ HZ0.out (HID.out _ _ _ _ _) rfl (HDO.out _ _ _ _ _) ?_
          have hfx4 := Fr.row1 wx3 pA (dval d s1 n1 c1 m1)
          have HO0' := Lib.hid (DV.past HO0.out HOK.out hfx4 HZ0.out DZ_no)
          clear HO0
          have HO0 := HO0'
          clear HO0'
          have HO1' := Lib.hid (RV.past HO1.out hfx4 (show Bk _ _ (dval ⟨[], [], 0, false⟩ none 0 none 0) 39 from HZ0.out))
          clear HO1
          have HO1 := HO1'
          clear HO1'
          have HZ1' := Lib.hid ((show Bk (wx3.setRow pA (dval d s1 n1 c1 m1)) pB RZ 24 from ArrKit.Bk.rowOther HZ1.out _ (HPQ.out.symm)))
          clear HZ1
          have HZ1 := HZ1'
          clear HZ1'
          have HX0' : Hid (Bk (wx3.setRow pA (dval d s1 n1 c1 m1)) pA (dval d s1 n1 c1 m1) 39) := Lib.hid (ArrKit.Bk.row HZ0.out _)
          clear HZ0
          have HZ0 := HX0'
          clear HX0'
          refine hK.out _ _ (ArrKit.Fr.row hHeld4 _ _ (.inl HLO0.out)) (fun hHeld5 => ?_)
          clear hK K hHeld4
          clear hfx4
          generalize (wx3.setRow pA (dval d s1 n1 c1 m1)) = wx4 at *
          change wpAnyH _ _ _ _ _ 1 #[true, true, true, true, true, true, true, false] _ _
          refine wpAnyH_ready (rs := [7]) (by kernel_rfl) (by simp) ?_
          refine AllReadyH.cons rfl (fun K hK => ?_) AllReadyH.nil
          simp only [List.getElem_toArray, List.getElem_cons_succ, List.getElem_cons_zero]
          refine (if_pos (by kernel_rfl)).mpr ?_
          refine wp_store_row 24 _ _ rfl pB (rval m a2 k2) rfl rfl 24 RZ HZ1.out (HIR.out _ _ _) rfl (HRO.out _ _ _) ?_
          have hfx5 := Fr.row1 wx4 pB (rval m a2 k2)
          have HO0' := Lib.hid (DV_past HO0.out HOK.out hfx5 HZ1.out (rc_no 0 none 0 0))
          clear HO0
          have HO0 := HO0'
          clear HO0'
          have HZ0' := Lib.hid ((show Bk (wx4.setRow pB (rval m a2 k2)) pA (dval d s1 n1 c1 m1) 39 from ArrKit.Bk.rowOther HZ0.out _ (HPQ.out)))
          clear HZ0
          have HZ0 := HZ0'
          clear HZ0'
          have HO1' := Lib.hid (RV.pastR HO1.out hfx5 HZ1.out)
          clear HO1
          have HO1 := HO1'
          clear HO1'
          have HX1' : Hid (Bk (wx4.setRow pB (rval m a2 k2)) pB (rval m a2 k2) 24) := Lib.hid (ArrKit.Bk.row HZ1.out _)
          clear HZ1
          have HZ1 := HX1'
          clear HX1'
          refine hK.out _ _ (ArrKit.Fr.row hHeld5 _ _ (.inl HLO1.out)) (fun hHeld6 => ?_)
          clear hK K hHeld5
          clear hfx5
          generalize (wx4.setRow pB (rval m a2 k2)) = wx5 at *
          change wpAnyH _ _ _ _ _ 0 #[true, true, true, true, true, true, true, true] _ _
          refine wpAnyH_done (by kernel_rfl) ?_ _
          refine NoPanic.normal ?_
          have HEND := Lib.hid hHeld6
          clear hHeld6
          exact HREST.out wx5 pA pB s1 n1 c1 m1 a2 k2 HEND.out ⟨HZ0.out, HO0.out⟩ HZ1.out HO1.out HPQ.out HLO0.out HLO1.out
        · simp only [List.getElem_toArray, List.getElem_cons_succ, List.getElem_cons_zero]
          refine (if_pos (by kernel_rfl)).mpr ?_
          go_wp2_with fail
          have hfx2 : Fr (fun _ => False) wx1 (wx1.alloc (.cells RZ 24)) := Fr.alloc (Fr.refl _ _) _
          have HLO1 : Hid (w2.heap.size ≤ wx1.heap.size) := Lib.hid (Fr.size hHeld2)
          have HPQ : Hid (pA ≠ wx1.heap.size) := Lib.hid (by have h1 := Bk.lt HZ0.out; omega)
          have HO0' := Lib.hid (DV.keep HO0.out hfx2)
          clear HO0
          have HO0 := HO0'
          clear HO0'
          have HZ0' := Lib.hid (hfx2.keep HZ0.out (fun h => h))
          clear HZ0
          have HZ0 := HZ0'
          clear HZ0'
          have HZ1 : Hid (Bk (wx1.alloc (.cells RZ 24)) wx1.heap.size RZ 24) := Lib.hid (Bk.new wx1 _)
          have HB1 : Hid (wx1.heap.size < (wx1.alloc (.cells RZ 24)).heap.size) := Lib.hid (Bk.lt HZ1.out)
          have HB0' : Hid (pA < (wx1.alloc (.cells RZ 24)).heap.size) := Lib.hid (Bk.lt HZ0.out)
          clear HB0
          have HB0 := HB0'
          clear HB0'
          refine hK.out _ _ (hHeld2.then0 hfx2) (fun hHeld3 => ?_)
          clear hK K hHeld2
          clear hfx2
          generalize wx1.heap.size = pB at *
          generalize (wx1.alloc (.cells RZ 24)) = wx2 at *
          change wpAnyH _ _ _ _ _ 3 #[true, true, true, false, true, true, false, false] _ _
          refine wpAnyH_ready (rs := [3]) (by kernel_rfl) (by simp) ?_
          refine AllReadyH.cons rfl (fun K hK => ?_) AllReadyH.nil
          simp only [List.getElem_toArray, List.getElem_cons_succ, List.getElem_cons_zero]
          refine (if_pos (by kernel_rfl)).mpr ?_
          go_wp2_with fail
          refine (HRC.out _ (HF2.out.then0 hHeld3)).mono ?_
          rintro e wx3 ⟨a2, k2, rfl, hown1, hfx3⟩
          dsimp only
          have HO0' := Lib.hid (DV.keep HO0.out hfx3)
          clear HO0
          have HO0 := HO0'
          clear HO0'
          have HZ0' := Lib.hid (hfx3.keep HZ0.out (fun h => h))
          clear HZ0
          have HZ0 := HZ0'
          clear HZ0'
          have HZ1' := Lib.hid (hfx3.keep HZ1.out (fun h => h))
          clear HZ1
          have HZ1 := HZ1'
          clear HZ1'
          have HO1 := Lib.hid hown1
          clear hown1
          have HB0' : Hid (pA < wx3.heap.size) := Lib.hid (Bk.lt HZ0.out)
          clear HB0
          have HB0 := HB0'
          clear HB0'
          have HB1' : Hid (pB < wx3.heap.size) := Lib.hid (Bk.lt HZ1.out)
          clear HB1
          have HB1 := HB1'
          clear HB1'
          refine hK.out _ _ (hHeld3.then0 hfx3) (fun hHeld4 => ?_)
          clear hK K hHeld3
          clear hfx3
          change wpAnyH _ _ _ _ _ 2 #[true, true, true, true, true, true, false, false] _ _
          refine wpAnyH_ready (rs := [6]) (by kernel_rfl) (by simp) ?_
          refine AllReadyH.cons rfl (fun K hK => ?_) AllReadyH.nil
          simp only [List.getElem_toArray, List.getElem_cons_succ, List.getElem_cons_zero]
          refine (if_pos (by kernel_rfl)).mpr ?_
          refine wp_store_row 39 _ _ rfl pA (dval d s1 n1 c1 m1) rfl rfl 39 DZ HZ0.out (HID.out _ _ _ _ _) rfl (HDO.out _ _ _ _ _) ?_
          have hfx4 := Fr.row1 wx3 pA (dval d s1 n1 c1 m1)
          have HO0' := Lib.hid (DV.past HO0.out HOK.out hfx4 HZ0.out DZ_no)
          clear HO0
          have HO0 := HO0'
          clear HO0'
          have HZ1' := Lib.hid ((show Bk (wx3.setRow pA (dval d s1 n1 c1 m1)) pB RZ 24 from ArrKit.Bk.rowOther HZ1.out _ (HPQ.out.symm)))
          clear HZ1
          have HZ1 := HZ1'
          clear HZ1'
          have HO1' := Lib.hid (RV.past HO1.out hfx4 (show Bk _ _ (dval ⟨[], [], 0, false⟩ none 0 none 0) 39 from HZ0.out))
          clear HO1
          have HO1 := HO1'
          clear HO1'
          have HX0' : Hid (Bk (wx3.setRow pA (dval d s1 n1 c1 m1)) pA (dval d s1 n1 c1 m1) 39) := Lib.hid (ArrKit.Bk.row HZ0.out _)
          clear HZ0
          have HZ0 := HX0'
          clear HX0'
          refine hK.out _ _ (ArrKit.Fr.row hHeld4 _ _ (.inl HLO0.out)) (fun hHeld5 => ?_)
          clear hK K hHeld4
          clear hfx4
          generalize (wx3.setRow pA (dval d s1 n1 c1 m1)) = wx4 at *
          change wpAnyH _ _ _ _ _ 1 #[true, true, true, true, true, true, true, false] _ _
          refine wpAnyH_ready (rs := [7]) (by kernel_rfl) (by simp) ?_
          refine AllReadyH.cons rfl (fun K hK => ?_) AllReadyH.nil
          simp only [List.getElem_toArray, List.getElem_cons_succ, List.getElem_cons_zero]
          refine (if_pos (by kernel_rfl)).mpr ?_
          refine wp_store_row 24 _ _ rfl pB (rval m a2 k2) rfl rfl 24 RZ HZ1.out (HIR.out _ _ _) rfl (HRO.out _ _ _) ?_
          have hfx5 := Fr.row1 wx4 pB (rval m a2 k2)
          have HO0' := Lib.hid (DV_past HO0.out HOK.out hfx5 HZ1.out (rc_no 0 none 0 0))
          clear HO0
          have HO0 := HO0'
          clear HO0'
          have HZ0' := Lib.hid ((show Bk (wx4.setRow pB (rval m a2 k2)) pA (dval d s1 n1 c1 m1) 39 from ArrKit.Bk.rowOther HZ0.out _ (HPQ.out)))
          clear HZ0
          have HZ0 := HZ0'
          clear HZ0'
          have HO1' := Lib.hid (RV.pastR HO1.out hfx5 HZ1.out)
          clear HO1
          have HO1 := HO1'
          clear HO1'
          have HX1' : Hid (Bk (wx4.setRow pB (rval m a2 k2)) pB (rval m a2 k2) 24) := Lib.hid (ArrKit.Bk.row HZ1.out _)
          clear HZ1
          have HZ1 := HX1'
          clear HX1'
          refine hK.out _ _ (ArrKit.Fr.row hHeld5 _ _ (.inl HLO1.out)) (fun hHeld6 => ?_)
          clear hK K hHeld5
          clear hfx5
          generalize (wx4.setRow pB (rval m a2 k2)) = wx5 at *
          change wpAnyH _ _ _ _ _ 0 #[true, true, true, true, true, true, true, true] _ _
          refine wpAnyH_done (by kernel_rfl) ?_ _
          refine NoPanic.normal ?_
          have HEND := Lib.hid hHeld6
          clear hHeld6
          exact HREST.out wx5 pA pB s1 n1 c1 m1 a2 k2 HEND.out ⟨HZ0.out, HO0.out⟩ HZ1.out HO1.out HPQ.out HLO0.out HLO1.out
      · simp only [List.getElem_toArray, List.getElem_cons_succ, List.getElem_cons_zero]
        refine (if_pos (by kernel_rfl)).mpr ?_
        go_wp2_with fail
        have hfx1 : Fr (fun _ => False) wx0 (wx0.alloc (.cells RZ 24)) := Fr.alloc (Fr.refl _ _) _
        have HLO1 : Hid (w2.heap.size ≤ wx0.heap.size) := Lib.hid (Fr.size hHeld1)
        have HO0' := Lib.hid (DV.keep HO0.out hfx1)
        clear HO0
        have HO0 := HO0'
        clear HO0'
        have HZ1 : Hid (Bk (wx0.alloc (.cells RZ 24)) wx0.heap.size RZ 24) := Lib.hid (Bk.new wx0 _)
        have HB1 : Hid (wx0.heap.size < (wx0.alloc (.cells RZ 24)).heap.size) := Lib.hid (Bk.lt HZ1.out)
        refine hK.out _ _ (hHeld1.then0 hfx1) (fun hHeld2 => ?_)
        clear hK K hHeld1
        clear hfx1
        generalize wx0.heap.size = pB at *
        generalize (wx0.alloc (.cells RZ 24)) = wx1 at *
        change wpAnyH _ _ _ _ _ 4 #[true, true, true, false, false, true, false, false] _ _
        refine wpAnyH_ready (rs := [3, 4]) (by kernel_rfl) (by simp) ?_
        refine AllReadyH.cons rfl (fun K hK => ?_) (AllReadyH.cons rfl (fun K hK => ?_) (AllReadyH.nil))
        · simp only [List.getElem_toArray, List.getElem_cons_succ, List.getElem_cons_zero]
          refine (if_pos (by kernel_rfl)).mpr ?_
          go_wp2_with fail
          refine (HRC.out _ (HF2.out.then0 hHeld2)).mono ?_
          rintro e wx2 ⟨a2, k2, rfl, hown1, hfx2⟩
          dsimp only
          have HO0' := Lib.hid (DV.keep HO0.out hfx2)
          clear HO0
          have HO0 := HO0'
          clear HO0'
          have HZ1' := Lib.hid (hfx2.keep HZ1.out (fun h => h))
          clear HZ1
          have HZ1 := HZ1'
          clear HZ1'
          have HO1 := Lib.hid hown1
          clear hown1
          have HB1' : Hid (pB < wx2.heap.size) := Lib.hid (Bk.lt HZ1.out)
          clear HB1
          have HB1 := HB1'
          clear HB1'
          refine hK.out _ _ (hHeld2.then0 hfx2) (fun hHeld3 => ?_)
          clear hK K hHeld2
          clear hfx2
          change wpAnyH _ _ _ _ _ 3 #[true, true, true, true, false, true, false, false] _ _
          refine wpAnyH_ready (rs := [4]) (by kernel_rfl) (by simp) ?_
          refine AllReadyH.cons rfl (fun K hK => ?_) AllReadyH.nil
          simp only [List.getElem_toArray, List.getElem_cons_succ, List.getElem_cons_zero]
          refine (if_pos (by kernel_rfl)).mpr ?_
          go_wp2_with fail
          have hfx3 : Fr (fun _ => False) wx2 (wx2.alloc (.cells DZ 39)) := Fr.alloc (Fr.refl _ _) _
          have HLO0 : Hid (w2.heap.size ≤ wx2.heap.size) := Lib.hid (Fr.size hHeld3)
          have HPQ : Hid (wx2.heap.size ≠ pB) := Lib.hid (by have h1 := Bk.lt HZ1.out; omega)
          have HO0' := Lib.hid (DV.keep HO0.out hfx3)
          clear HO0
          have HO0 := HO0'
          clear HO0'
          have HZ1' := Lib.hid (hfx3.keep HZ1.out (fun h => h))
          clear HZ1
          have HZ1 := HZ1'
          clear HZ1'
          have HO1' := Lib.hid (RV.keep HO1.out hfx3)
          clear HO1
          have HO1 := HO1'
          clear HO1'
          have HZ0 : Hid (Bk (wx2.alloc (.cells DZ 39)) wx2.heap.size DZ 39) := Lib.hid (Bk.new wx2 _)
          have HB0 : Hid (wx2.heap.size < (wx2.alloc (.cells DZ 39)).heap.size) := Lib.hid (Bk.lt HZ0.out)
          have HB1' : Hid (pB < (wx2.alloc (.cells DZ 39)).heap.size) := Lib.hid (Bk.lt HZ1.out)
          clear HB1
          have HB1 := HB1'
          clear HB1'
          refine hK.out _ _ (hHeld3.then0 hfx3) (fun hHeld4 => ?_)
          clear hK K hHeld3
          clear hfx3
          generalize wx2.heap.size = pA at *
          generalize (wx2.alloc (.cells DZ 39)) = wx3 at *
          change wpAnyH _ _ _ _ _ 2 #[true, true, true, true, true, true, false, false] _ _
          refine wpAnyH_ready (rs := [6]) (by kernel_rfl) (by simp) ?_
          refine AllReadyH.cons rfl (fun K hK => ?_) AllReadyH.nil
          simp only [List.getElem_toArray, List.getElem_cons_succ, List.getElem_cons_zero]
          refine (if_pos (by kernel_rfl)).mpr ?_
          refine wp_store_row 39 _ _ rfl pA (dval d s1 n1 c1 m1) rfl rfl 39 DZ HZ0.out (HID.out _ _ _ _ _) rfl (HDO.out _ _ _ _ _) ?_
          have hfx4 := Fr.row1 wx3 pA (dval d s1 n1 c1 m1)
          have HO0' := Lib.hid (DV.past HO0.out HOK.out hfx4 HZ0.out DZ_no)
          clear HO0
          have HO0 := HO0'
          clear HO0'
          have HZ1' := Lib.hid ((show Bk (wx3.setRow pA (dval d s1 n1 c1 m1)) pB RZ 24 from ArrKit.Bk.rowOther HZ1.out _ (HPQ.out.symm)))
          clear HZ1
          have HZ1 := HZ1'
          clear HZ1'
          have HO1' := Lib.hid (RV.past HO1.out hfx4 (show Bk _ _ (dval ⟨[], [], 0, false⟩ none 0 none 0) 39 from HZ0.out))
          clear HO1
          have HO1 := HO1'
          clear HO1'
          have HX0' : Hid (Bk (wx3.setRow pA (dval d s1 n1 c1 m1)) pA (dval d s1 n1 c1 m1) 39) := Lib.hid (ArrKit.Bk.row HZ0.out _)
          clear HZ0
          have HZ0 := HX0'
          clear HX0'
          refine hK.out _ _ (ArrKit.Fr.row hHeld4 _ _ (.inl HLO0.out)) (fun hHeld5 => ?_)
          clear hK K hHeld4
          clear hfx4
          generalize (wx3.setRow pA (dval d s1 n1 c1 m1)) = wx4 at *
          change wpAnyH _ _ _ _ _ 1 #[true, true, true, true, true, true, true, false] _ _
          refine wpAnyH_ready (rs := [7]) (by kernel_rfl) (by simp) ?_
          refine AllReadyH.cons rfl (fun K hK => ?_) AllReadyH.nil
          simp only [List.getElem_toArray, List.getElem_cons_succ, List.getElem_cons_zero]
          refine (if_pos (by kernel_rfl)).mpr ?_
          refine wp_store_row 24 _ _ rfl pB (rval m a2 k2) rfl rfl 24 RZ HZ1.out (HIR.out _ _ _) rfl (HRO.out _ _ _) ?_
          have hfx5 := Fr.row1 wx4 pB (rval m a2 k2)
          have HO0' := Lib.hid (DV_past HO0.out HOK.out hfx5 HZ1.out (rc_no 0 none 0 0))
          clear HO0
          have HO0 := HO0'
          clear HO0'
          have HO1' := Lib.hid (RV.pastR HO1.out hfx5 HZ1.out)
          clear HO1
          have HO1 := HO1'
          clear HO1'
          have HZ0' := Lib.hid ((show Bk (wx4.setRow pB (rval m a2 k2)) pA (dval d s1 n1 c1 m1) 39 from ArrKit.Bk.rowOther HZ0.out _ (HPQ.out)))
          clear HZ0
          have HZ0 := HZ0'
          clear HZ0'
          have HX1' : Hid (Bk (wx4.setRow pB (rval m a2 k2)) pB (rval m a2 k2) 24) := Lib.hid (ArrKit.Bk.row HZ1.out _)
          clear HZ1
          have HZ1 := HX1'
          clear HX1'
          refine hK.out _ _ (ArrKit.Fr.row hHeld5 _ _ (.inl HLO1.out)) (fun hHeld6 => ?_)
          clear hK K hHeld5
          clear hfx5
          generalize (wx4.setRow pB (rval m a2 k2)) = wx5 at *
          change wpAnyH _ _ _ _ _ 0 #[true, true, true, true, true, true, true, true] _ _
          refine wpAnyH_done (by kernel_rfl) ?_ _
          refine NoPanic.normal ?_
          have HEND := Lib.hid hHeld6
          clear hHeld6
          exact HREST.out wx5 pA pB s1 n1 c1 m1 a2 k2 HEND.out ⟨HZ0.out, HO0.out⟩ HZ1.out HO1.out HPQ.out HLO0.out HLO1.out
        · simp only [List.getElem_toArray, List.getElem_cons_succ, List.getElem_cons_zero]
          refine (if_pos (by kernel_rfl)).mpr ?_
          go_wp2_with fail
          have hfx2 : Fr (fun _ => False) wx1 (wx1.alloc (.cells DZ 39)) := Fr.alloc (Fr.refl _ _) _
          have HLO0 : Hid (w2.heap.size ≤ wx1.heap.size) := Lib.hid (Fr.size hHeld2)
          have HPQ : Hid (wx1.heap.size ≠ pB) := Lib.hid (by have h1 := Bk.lt HZ1.out; omega)
          have HO0' := Lib.hid (DV.keep HO0.out hfx2)
          clear HO0
          have HO0 := HO0'
          clear HO0'
          have HZ1' := Lib.hid (hfx2.keep HZ1.out (fun h => h))
          clear HZ1
          have HZ1 := HZ1'
          clear HZ1'
          have HZ0 : Hid (Bk (wx1.alloc (.cells DZ 39)) wx1.heap.size DZ 39) := Lib.hid (Bk.new wx1 _)
          have HB0 : Hid (wx1.heap.size < (wx1.alloc (.cells DZ 39)).heap.size) := Lib.hid (Bk.lt HZ0.out)
          have HB1' : Hid (pB < (wx1.alloc (.cells DZ 39)).heap.size) := Lib.hid (Bk.lt HZ1.out)
          clear HB1
          have HB1 := HB1'
          clear HB1'
          refine hK.out _ _ (hHeld2.then0 hfx2) (fun hHeld3 => ?_)
          clear hK K hHeld2
          clear hfx2
          generalize wx1.heap.size = pA at *
          generalize (wx1.alloc (.cells DZ 39)) = wx2 at *
          change wpAnyH _ _ _ _ _ 3 #[true, true, true, false, true, true, false, false] _ _
          refine wpAnyH_ready (rs := [3]) (by kernel_rfl) (by simp) ?_
          refine AllReadyH.cons rfl (fun K hK => ?_) AllReadyH.nil
          simp only [List.getElem_toArray, List.getElem_cons_succ, List.getElem_cons_zero]
          refine (if_pos (by kernel_rfl)).mpr ?_
          go_wp2_with fail
          refine (HRC.out _ (HF2.out.then0 hHeld3)).mono ?_
          rintro e wx3 ⟨a2, k2, rfl, hown1, hfx3⟩
          dsimp only
          have HO0' := Lib.hid (DV.keep HO0.out hfx3)
          clear HO0
          have HO0 := HO0'
          clear HO0'
          have HZ1' := Lib.hid (hfx3.keep HZ1.out (fun h => h))
          clear HZ1
          have HZ1 := HZ1'
          clear HZ1'
          have HZ0' := Lib.hid (hfx3.keep HZ0.out (fun h => h))
          clear HZ0
          have HZ0 := HZ0'
          clear HZ0'
          have HO1 := Lib.hid hown1
          clear hown1
          have HB0' : Hid (pA < wx3.heap.size) := Lib.hid (Bk.lt HZ0.out)
          clear HB0
          have HB0 := HB0'
          clear HB0'
          have HB1' : Hid (pB < wx3.heap.size) := Lib.hid (Bk.lt HZ1.out)
          clear HB1
          have HB1 := HB1'
          clear HB1'
          refine hK.out _ _ (hHeld3.then0 hfx3) (fun hHeld4 => ?_)
          clear hK K hHeld3
          clear hfx3
          change wpAnyH _ _ _ _ _ 2 #[true, true, true, true, true, true, false, false] _ _
          refine wpAnyH_ready (rs := [6]) (by kernel_rfl) (by simp) ?_
          refine AllReadyH.cons rfl (fun K hK => ?_) AllReadyH.nil
          simp only [List.getElem_toArray, List.getElem_cons_succ, List.getElem_cons_zero]
          refine (if_pos (by kernel_rfl)).mpr ?_
          refine wp_store_row 39 _ _ rfl pA (dval d s1 n1 c1 m1) rfl rfl 39 DZ HZ0.out (HID.out _ _ _ _ _) rfl (HDO.out _ _ _ _ _) ?_
          have hfx4 := Fr.row1 wx3 pA (dval d s1 n1 c1 m1)
          have HO0' := Lib.hid (DV.past HO0.out HOK.out hfx4 HZ0.out DZ_no)
          clear HO0
          have HO0 := HO0'
          clear HO0'
          have HZ1' := Lib.hid ((show Bk (wx3.setRow pA (dval d s1 n1 c1 m1)) pB RZ 24 from ArrKit.Bk.rowOther HZ1.out _ (HPQ.out.symm)))
          clear HZ1
          have HZ1 := HZ1'
          clear HZ1'
          have HO1' := Lib.hid (RV.past HO1.out hfx4 (show Bk _ _ (dval ⟨[], [], 0, false⟩ none 0 none 0) 39 from HZ0.out))
          clear HO1
          have HO1 := HO1'
          clear HO1'
          have HX0' : Hid (Bk (wx3.setRow pA (dval d s1 n1 c1 m1)) pA (dval d s1 n1 c1 m1) 39) := Lib.hid (ArrKit.Bk.row HZ0.out _)
          clear HZ0
          have HZ0 := HX0'
          clear HX0'
          refine hK.out _ _ (ArrKit.Fr.row hHeld4 _ _ (.inl HLO0.out)) (fun hHeld5 => ?_)
          clear hK K hHeld4
          clear hfx4
          generalize (wx3.setRow pA (dval d s1 n1 c1 m1)) = wx4 at *
          change wpAnyH _ _ _ _ _ 1 #[true, true, true, true, true, true, true, false] _ _
          refine wpAnyH_ready (rs := [7]) (by kernel_rfl) (by simp) ?_
          refine AllReadyH.cons rfl (fun K hK => ?_) AllReadyH.nil
          simp only [List.getElem_toArray, List.getElem_cons_succ, List.getElem_cons_zero]
          refine (if_pos (by kernel_rfl)).mpr ?_
          refine wp_store_row 24 _ _ rfl pB (rval m a2 k2) rfl rfl 24 RZ HZ1.out (HIR.out _ _ _) rfl (HRO.out _ _ _) ?_
          have hfx5 := Fr.row1 wx4 pB (rval m a2 k2)
          have HO0' := Lib.hid (DV_past HO0.out HOK.out hfx5 HZ1.out (rc_no 0 none 0 0))
          clear HO0
          have HO0 := HO0'
          clear HO0'
          have HZ0' := Lib.hid ((show Bk (wx4.setRow pB (rval m a2 k2)) pA (dval d s1 n1 c1 m1) 39 from ArrKit.Bk.rowOther HZ0.out _ (HPQ.out)))
          clear HZ0
          have HZ0 := HZ0'
          clear HZ0'
          have HO1' := Lib.hid (RV.pastR HO1.out hfx5 HZ1.out)
          clear HO1
          have HO1 := HO1'
          clear HO1'
          have HX1' : Hid (Bk (wx4.setRow pB (rval m a2 k2)) pB (rval m a2 k2) 24) := Lib.hid (ArrKit.Bk.row HZ1.out _)
          clear HZ1
          have HZ1 := HX1'
          clear HX1'
          refine hK.out _ _ (ArrKit.Fr.row hHeld5 _ _ (.inl HLO1.out)) (fun hHeld6 => ?_)
          clear hK K hHeld5
          clear hfx5
          generalize (wx4.setRow pB (rval m a2 k2)) = wx5 at *
          change wpAnyH _ _ _ _ _ 0 #[true, true, true, true, true, true, true, true] _ _
          refine wpAnyH_done (by kernel_rfl) ?_ _
          refine NoPanic.normal ?_
          have HEND := Lib.hid hHeld6
          clear hHeld6
          exact HREST.out wx5 pA pB s1 n1 c1 m1 a2 k2 HEND.out ⟨HZ0.out, HO0.out⟩ HZ1.out HO1.out HPQ.out HLO0.out HLO1.out
    · simp only [List.getElem_toArray, List.getElem_cons_succ, List.getElem_cons_zero]
      refine (if_pos (by kernel_rfl)).mpr ?_
      go_wp2_with fail
      have hfx0 : Fr (fun _ => False) wd (wd.alloc (.cells DZ 39)) := Fr.alloc (Fr.refl _ _) _
      have HLO0 : Hid (w2.heap.size ≤ wd.heap.size) := Lib.hid (Fr.size hHeld0)
      have HZ0 : Hid (Bk (wd.alloc (.cells DZ 39)) wd.heap.size DZ 39) := Lib.hid (Bk.new wd _)
      have HB0 : Hid (wd.heap.size < (wd.alloc (.cells DZ 39)).heap.size) := Lib.hid (Bk.lt HZ0.out)
      refine hK.out _ _ (hHeld0.then0 hfx0) (fun hHeld1 => ?_)
      clear hK K hHeld0
      clear hfx0
      generalize wd.heap.size = pA at *
      generalize (wd.alloc (.cells DZ 39)) = wx0 at *
      change wpAnyH _ _ _ _ _ 5 #[true, false, true, false, true, false, false, false] _ _
      refine wpAnyH_ready (rs := [1, 5]) (by kernel_rfl) (by simp) ?_
      refine AllReadyH.cons rfl (fun K hK => ?_) (AllReadyH.cons rfl (fun K hK => ?_) (AllReadyH.nil))
      · simp only [List.getElem_toArray, List.getElem_cons_succ, List.getElem_cons_zero]
        refine (if_pos (by kernel_rfl)).mpr ?_
        go_wp2_with fail
        refine (HDC.out _ (HF2.out.then0 hHeld1)).mono ?_
        rintro e wx1 ⟨s1, n1, c1, m1, rfl, hown0, hfx1⟩
        dsimp only
        have HZ0' := Lib.hid (hfx1.keep HZ0.out (fun h => h))
        clear HZ0
        have HZ0 := HZ0'
        clear HZ0'
        have HO0 := Lib.hid hown0
        clear hown0
        have HB0' : Hid (pA < wx1.heap.size) := Lib.hid (Bk.lt HZ0.out)
        clear HB0
        have HB0 := HB0'
        clear HB0'
        refine hK.out _ _ (hHeld1.then0 hfx1) (fun hHeld2 => ?_)
        clear hK K hHeld1
        clear hfx1
        change wpAnyH _ _ _ _ _ 4 #[true, true, true, false, true, false, false, false] _ _
        refine wpAnyH_ready (rs := [3, 5]) (by kernel_rfl) (by simp) ?_
        refine AllReadyH.cons rfl (fun K hK => ?_) (AllReadyH.cons rfl (fun K hK => ?_) (AllReadyH.nil))
        · simp only [List.getElem_toArray, List.getElem_cons_succ, List.getElem_cons_zero]
          refine (if_pos (by kernel_rfl)).mpr ?_
          go_wp2_with fail
          refine (HRC.out _ (HF2.out.then0 hHeld2)).mono ?_
          rintro e wx2 ⟨a2, k2, rfl, hown1, hfx2⟩
          dsimp only
          have HZ0' := Lib.hid (hfx2.keep HZ0.out (fun h => h))
          clear HZ0
          have HZ0 := HZ0'
          clear HZ0'
          have HO0' := Lib.hid (DV.keep HO0.out hfx2)
          clear HO0
          have HO0 := HO0'
          clear HO0'
          have HO1 := Lib.hid hown1
          clear hown1
          have HB0' : Hid (pA < wx2.heap.size) := Lib.hid (Bk.lt HZ0.out)
          clear HB0
          have HB0 := HB0'
          clear HB0'
          refine hK.out _ _ (hHeld2.then0 hfx2) (fun hHeld3 => ?_)
          clear hK K hHeld2
          clear hfx2
          change wpAnyH _ _ _ _ _ 3 #[true, true, true, true, true, false, false, false] _ _
          refine wpAnyH_ready (rs := [5]) (by kernel_rfl) (by simp) ?_
          refine AllReadyH.cons rfl (fun K hK => ?_) AllReadyH.nil
          simp only [List.getElem_toArray, List.getElem_cons_succ, List.getElem_cons_zero]
          refine (if_pos (by kernel_rfl)).mpr ?_
          go_wp2_with fail
          have hfx3 : Fr (fun _ => False) wx2 (wx2.alloc (.cells RZ 24)) := Fr.alloc (Fr.refl _ _) _
          have HLO1 : Hid (w2.heap.size ≤ wx2.heap.size) := Lib.hid (Fr.size hHeld3)
          have HPQ : Hid (pA ≠ wx2.heap.size) := Lib.hid (by have h1 := Bk.lt HZ0.out; omega)
          have HZ0' := Lib.hid (hfx3.keep HZ0.out (fun h => h))
          clear HZ0
          have HZ0 := HZ0'
          clear HZ0'
          have HO0' := Lib.hid (DV.keep HO0.out hfx3)
          clear HO0
          have HO0 := HO0'
          clear HO0'
          have HO1' := Lib.hid (RV.keep HO1.out hfx3)
          clear HO1
          have HO1 := HO1'
          clear HO1'
          have HZ1 : Hid (Bk (wx2.alloc (.cells RZ 24)) wx2.heap.size RZ 24) := Lib.hid (Bk.new wx2 _)
          have HB1 : Hid (wx2.heap.size < (wx2.alloc (.cells RZ 24)).heap.size) := Lib.hid (Bk.lt HZ1.out)
          have HB0' : Hid (pA < (wx2.alloc (.cells RZ 24)).heap.size) := Lib.hid (Bk.lt HZ0.out)
          clear HB0
          have HB0 := HB0'
          clear HB0'
          refine hK.out _ _ (hHeld3.then0 hfx3) (fun hHeld4 => ?_)
          clear hK K hHeld3
          clear hfx3
          generalize wx2.heap.size = pB at *
          generalize (wx2.alloc (.cells RZ 24)) = wx3 at *
          change wpAnyH _ _ _ _ _ 2 #[true, true, true, true, true, true, false, false] _ _
          refine wpAnyH_ready (rs := [6]) (by kernel_rfl) (by simp) ?_
          refine AllReadyH.cons rfl (fun K hK => ?_) AllReadyH.nil
          simp only [List.getElem_toArray, List.getElem_cons_succ, List.getElem_cons_zero]
          refine (if_pos (by kernel_rfl)).mpr ?_
          refine wp_store_row 39 _ _ rfl pA (dval d s1 n1 c1 m1) rfl rfl 39 DZ HZ0.out (HID.out _ _ _ _ _) rfl (HDO.out _ _ _ _ _) ?_
          have hfx4 := Fr.row1 wx3 pA (dval d s1 n1 c1 m1)
          have HO0' := Lib.hid (DV.past HO0.out HOK.out hfx4 HZ0.out DZ_no)
          clear HO0
          have HO0 := HO0'
          clear HO0'
          have HO1' := Lib.hid (RV.past HO1.out hfx4 (show Bk _ _ (dval ⟨[], [], 0, false⟩ none 0 none 0) 39 from HZ0.out))
          clear HO1
          have HO1 := HO1'
          clear HO1'
          have HZ1' := Lib.hid ((show Bk (wx3.setRow pA (dval d s1 n1 c1 m1)) pB RZ 24 from ArrKit.Bk.rowOther HZ1.out _ (HPQ.out.symm)))
          clear HZ1
          have HZ1 := HZ1'
          clear HZ1'
          have HX0' : Hid (Bk (wx3.setRow pA (dval d s1 n1 c1 m1)) pA (dval d s1 n1 c1 m1) 39) := Lib.hid (ArrKit.Bk.row HZ0.out _)
          clear HZ0
          have HZ0 := HX0'
          clear HX0'
          refine hK.out _ _ (ArrKit.Fr.row hHeld4 _ _ (.inl HLO0.out)) (fun hHeld5 => ?_)
          clear hK K hHeld4
          clear hfx4
          generalize (wx3.setRow pA (dval d s1 n1 c1 m1)) = wx4 at *
          change wpAnyH _ _ _ _ _ 1 #[true, true, true, true, true, true, true, false] _ _
          refine wpAnyH_ready (rs := [7]) (by kernel_rfl) (by simp) ?_
          refine AllReadyH.cons rfl (fun K hK => ?_) AllReadyH.nil
          simp only [List.getElem_toArray, List.getElem_cons_succ, List.getElem_cons_zero]
          refine (if_pos (by kernel_rfl)).mpr ?_
          refine wp_store_row 24 _ _ rfl pB (rval m a2 k2) rfl rfl 24 RZ HZ1.out (HIR.out _ _ _) rfl (HRO.out _ _ _) ?_
          have hfx5 := Fr.row1 wx4 pB (rval m a2 k2)
          have HZ0' := Lib.hid ((show Bk (wx4.setRow pB (rval m a2 k2)) pA (dval d s1 n1 c1 m1) 39 from ArrKit.Bk.rowOther HZ0.out _ (HPQ.out)))
          clear HZ0
          have HZ0 := HZ0'
          clear HZ0'
          have HO0' := Lib.hid (DV_past HO0.out HOK.out hfx5 HZ1.out (rc_no 0 none 0 0))
          clear HO0
          have HO0 := HO0'
          clear HO0'
          have HO1' := Lib.hid (RV.pastR HO1.out hfx5 HZ1.out)
          clear HO1
          have HO1 := HO1'
          clear HO1'
          have HX1' : Hid (Bk (wx4.setRow pB (rval m a2 k2)) pB (rval m a2 k2) 24) := Lib.hid (ArrKit.Bk.row HZ1.out _)
          clear HZ1
          have HZ1 := HX1'
          clear HX1'
          refine hK.out _ _ (ArrKit.Fr.row hHeld5 _ _ (.inl HLO1.out)) (fun hHeld6 => ?_)
          clear hK K hHeld5
          clear hfx5
          generalize (wx4.setRow pB (rval m a2 k2)) = wx5 at *
          change wpAnyH _ _ _ _ _ 0 #[true, true, true, true, true, true, true, true] _ _
          refine wpAnyH_done (by kernel_rfl) ?_ _
          refine NoPanic.normal ?_
          have HEND := Lib.hid hHeld6
          clear hHeld6
          exact HREST.out wx5 pA pB s1 n1 c1 m1 a2 k2 HEND.out ⟨HZ0.out, HO0.out⟩ HZ1.out HO1.out HPQ.out HLO0.out HLO1.out
        · simp only [List.getElem_toArray, List.getElem_cons_succ, List.getElem_cons_zero]
          refine (if_pos (by kernel_rfl)).mpr ?_
          go_wp2_with fail
          have hfx2 : Fr (fun _ => False) wx1 (wx1.alloc (.cells RZ 24)) := Fr.alloc (Fr.refl _ _) _
          have HLO1 : Hid (w2.heap.size ≤ wx1.heap.size) := Lib.hid (Fr.size hHeld2)
          have HPQ : Hid (pA ≠ wx1.heap.size) := Lib.hid (by have h1 := Bk.lt HZ0.out; omega)
          have HZ0' := Lib.hid (hfx2.keep HZ0.out (fun h => h))
          clear HZ0
          have HZ0 := HZ0'
          clear HZ0'
          have HO0' := Lib.hid (DV.keep HO0.out hfx2)
          clear HO0
          have HO0 := HO0'
          clear HO0'
          have HZ1 : Hid (Bk (wx1.alloc (.cells RZ 24)) wx1.heap.size RZ 24) := Lib.hid (Bk.new wx1 _)
          have HB1 : Hid (wx1.heap.size < (wx1.alloc (.cells RZ 24)).heap.size) := Lib.hid (Bk.lt HZ1.out)
          have HB0' : Hid (pA < (wx1.alloc (.cells RZ 24)).heap.size) := Lib.hid (Bk.lt HZ0.out)
          clear HB0
          have HB0 := HB0'
          clear HB0'
          refine hK.out _ _ (hHeld2.then0 hfx2) (fun hHeld3 => ?_)
          clear hK K hHeld2
          clear hfx2
          generalize wx1.heap.size = pB at *
          generalize (wx1.alloc (.cells RZ 24)) = wx2 at *
          change wpAnyH _ _ _ _ _ 3 #[true, true, true, false, true, true, false, false] _ _
          refine wpAnyH_ready (rs := [3]) (by kernel_rfl) (by simp) ?_
          refine AllReadyH.cons rfl (fun K hK => ?_) AllReadyH.nil
          simp only [List.getElem_toArray, List.getElem_cons_succ, List.getElem_cons_zero]
          refine (if_pos (by kernel_rfl)).mpr ?_
          go_wp2_with fail
          refine (HRC.out _ (HF2.out.then0 hHeld3)).mono ?_
          rintro e wx3 ⟨a2, k2, rfl, hown1, hfx3⟩
          dsimp only
          have HZ0' := Lib.hid (hfx3.keep HZ0.out (fun h => h))
          clear HZ0
          have HZ0 := HZ0'
          clear HZ0'
          have HO0' := Lib.hid (DV.keep HO0.out hfx3)
          clear HO0
          have HO0 := HO0'
          clear HO0'
          have HZ1' := Lib.hid (hfx3.keep HZ1.out (fun h => h))
          clear HZ1
          have HZ1 := HZ1'
          clear HZ1'
          have HO1 := Lib.hid hown1
          clear hown1
          have HB0' : Hid (pA < wx3.heap.size) := Lib.hid (Bk.lt HZ0.out)
          clear HB0
          have HB0 := HB0'
          clear HB0'
          have HB1' : Hid (pB < wx3.heap.size) := Lib.hid (Bk.lt HZ1.out)
          clear HB1
          have HB1 := HB1'
          clear HB1'
          refine hK.out _ _ (hHeld3.then0 hfx3) (fun hHeld4 => ?_)
          clear hK K hHeld3
          clear hfx3
          change wpAnyH _ _ _ _ _ 2 #[true, true, true, true, true, true, false, false] _ _
          refine wpAnyH_ready (rs := [6]) (by kernel_rfl) (by simp) ?_
          refine AllReadyH.cons rfl (fun K hK => ?_) AllReadyH.nil
          simp only [List.getElem_toArray, List.getElem_cons_succ, List.getElem_cons_zero]
          refine (if_pos (by kernel_rfl)).mpr ?_
          refine wp_store_row 39 _ _ rfl pA (dval d s1 n1 c1 m1) rfl rfl 39 DZ HZ0.out (HID.out _ _ _ _ _) rfl (HDO.out _ _ _ _ _) ?_
          have hfx4 := Fr.row1 wx3 pA (dval d s1 n1 c1 m1)
          have HO0' := Lib.hid (DV.past HO0.out HOK.out hfx4 HZ0.out DZ_no)
          clear HO0
          have HO0 := HO0'
          clear HO0'
          have HZ1' := Lib.hid ((show Bk (wx3.setRow pA (dval d s1 n1 c1 m1)) pB RZ 24 from ArrKit.Bk.rowOther HZ1.out _ (HPQ.out.symm)))
          clear HZ1
          have HZ1 := HZ1'
          clear HZ1'
          have HO1' := Lib.hid (RV.past HO1.out hfx4 (show Bk _ _ (dval ⟨[], [], 0, false⟩ none 0 none 0) 39 from HZ0.out))
          clear HO1
          have HO1 := HO1'
          clear HO1'
          have HX0' : Hid (Bk (wx3.setRow pA (dval d s1 n1 c1 m1)) pA (dval d s1 n1 c1 m1) 39) := Lib.hid (ArrKit.Bk.row HZ0.out _)
          clear HZ0
          have HZ0 := HX0'
          clear HX0'
          refine hK.out _ _ (ArrKit.Fr.row hHeld4 _ _ (.inl HLO0.out)) (fun hHeld5 => ?_)
          clear hK K hHeld4
          clear hfx4
          generalize (wx3.setRow pA (dval d s1 n1 c1 m1)) = wx4 at *
          change wpAnyH _ _ _ _ _ 1 #[true, true, true, true, true, true, true, false] _ _
          refine wpAnyH_ready (rs := [7]) (by kernel_rfl) (by simp) ?_
          refine AllReadyH.cons rfl (fun K hK => ?_) AllReadyH.nil
          simp only [List.getElem_toArray, List.getElem_cons_succ, List.getElem_cons_zero]
          refine (if_pos (by kernel_rfl)).mpr ?_
          refine wp_store_row 24 _ _ rfl pB (rval m a2 k2) rfl rfl 24 RZ HZ1.out (HIR.out _ _ _) rfl (HRO.out _ _ _) ?_
          have hfx5 := Fr.row1 wx4 pB (rval m a2 k2)
          have HZ0' := Lib.hid ((show Bk (wx4.setRow pB (rval m a2 k2)) pA (dval d s1 n1 c1 m1) 39 from ArrKit.Bk.rowOther HZ0.out _ (HPQ.out)))
          clear HZ0
          have HZ0 := HZ0'
          clear HZ0'
          have HO0' := Lib.hid (DV_past HO0.out HOK.out hfx5 HZ1.out (rc_no 0 none 0 0))
          clear HO0
          have HO0 := HO0'
          clear HO0'
          have HO1' := Lib.hid (RV.pastR HO1.out hfx5 HZ1.out)
          clear HO1
          have HO1 := HO1'
          clear HO1'
          have HX1' : Hid (Bk (wx4.setRow pB (rval m a2 k2)) pB (rval m a2 k2) 24) := Lib.hid (ArrKit.Bk.row HZ1.out _)
          clear HZ1
          have HZ1 := HX1'
          clear HX1'
          refine hK.out _ _ (ArrKit.Fr.row hHeld5 _ _ (.inl HLO1.out)) (fun hHeld6 => ?_)
          clear hK K hHeld5
          clear hfx5
          generalize (wx4.setRow pB (rval m a2 k2)) = wx5 at *
          change wpAnyH _ _ _ _ _ 0 #[true, true, true, true, true, true, true, true] _ _
          refine wpAnyH_done (by kernel_rfl) ?_ _
          refine NoPanic.normal ?_
          have HEND := Lib.hid hHeld6
          clear hHeld6
          exact HREST.out wx5 pA pB s1 n1 c1 m1 a2 k2 HEND.out ⟨HZ0.out, HO0.out⟩ HZ1.out HO1.out HPQ.out HLO0.out HLO1.out
      · simp only [List.getElem_toArray, List.getElem_cons_succ, List.getElem_cons_zero]
        refine (if_pos (by kernel_rfl)).mpr ?_
        go_wp2_with fail
        have hfx1 : Fr (fun _ => False) wx0 (wx0.alloc (.cells RZ 24)) := Fr.alloc (Fr.refl _ _) _
        have HLO1 : Hid (w2.heap.size ≤ wx0.heap.size) := Lib.hid (Fr.size hHeld1)
        have HPQ : Hid (pA ≠ wx0.heap.size) := Lib.hid (by have h1 := Bk.lt HZ0.out; omega)
        have HZ0' := Lib.hid (hfx1.keep HZ0.out (fun h => h))
        clear HZ0
        have HZ0 := HZ0'
        clear HZ0'
        have HZ1 : Hid (Bk (wx0.alloc (.cells RZ 24)) wx0.heap.size RZ 24) := Lib.hid (Bk.new wx0 _)
        have HB1 : Hid (wx0.heap.size < (wx0.alloc (.cells RZ 24)).heap.size) := Lib.hid (Bk.lt HZ1.out)
        have HB0' : Hid (pA < (wx0.alloc (.cells RZ 24)).heap.size) := Lib.hid (Bk.lt HZ0.out)
        clear HB0
        have HB0 := HB0'
        clear HB0'
        refine hK.out _ _ (hHeld1.then0 hfx1) (fun hHeld2 => ?_)
        clear hK K hHeld1
        clear hfx1
        generalize wx0.heap.size = pB at *
        generalize (wx0.alloc (.cells RZ 24)) = wx1 at *
        change wpAnyH _ _ _ _ _ 4 #[true, false, true, false, true, true, false, false] _ _
        refine wpAnyH_ready (rs := [1]) (by kernel_rfl) (by simp) ?_
        refine AllReadyH.cons rfl (fun K hK => ?_) AllReadyH.nil
        simp only [List.getElem_toArray, List.getElem_cons_succ, List.getElem_cons_zero]
        refine (if_pos (by kernel_rfl)).mpr ?_
        go_wp2_with fail
        refine (HDC.out _ (HF2.out.then0 hHeld2)).mono ?_
        rintro e wx2 ⟨s1, n1, c1, m1, rfl, hown0, hfx2⟩
        dsimp only
        have HZ0' := Lib.hid (hfx2.keep HZ0.out (fun h => h))
        clear HZ0
        have HZ0 := HZ0'
        clear HZ0'
        have HZ1' := Lib.hid (hfx2.keep HZ1.out (fun h => h))
        clear HZ1
        have HZ1 := HZ1'
        clear HZ1'
        have HO0 := Lib.hid hown0
        clear hown0
        have HB0' : Hid (pA < wx2.heap.size) := Lib.hid (Bk.lt HZ0.out)
        clear HB0
        have HB0 := HB0'
        clear HB0'
        have HB1' : Hid (pB < wx2.heap.size) := Lib.hid (Bk.lt HZ1.out)
        clear HB1
        have HB1 := HB1'
        clear HB1'
        refine hK.out _ _ (hHeld2.then0 hfx2) (fun hHeld3 => ?_)
        clear hK K hHeld2
        clear hfx2
        change wpAnyH _ _ _ _ _ 3 #[true, true, true, false, true, true, false, false] _ _
        refine wpAnyH_ready (rs := [3]) (by kernel_rfl) (by simp) ?_
        refine AllReadyH.cons rfl (fun K hK => ?_) AllReadyH.nil
        simp only [List.getElem_toArray, List.getElem_cons_succ, List.getElem_cons_zero]
        refine (if_pos (by kernel_rfl)).mpr ?_
        go_wp2_with fail
        refine (HRC.out _ (HF2.out.then0 hHeld3)).mono ?_
        rintro e wx3 ⟨a2, k2, rfl, hown1, hfx3⟩
        dsimp only
        have HZ0' := Lib.hid (hfx3.keep HZ0.out (fun h => h))
        clear HZ0
        have HZ0 := HZ0'
        clear HZ0'
        have HZ1' := Lib.hid (hfx3.keep HZ1.out (fun h => h))
        clear HZ1
        have HZ1 := HZ1'
        clear HZ1'
        have HO0' := Lib.hid (DV.keep HO0.out hfx3)
        clear HO0
        have HO0 := HO0'
        clear HO0'
        have HO1 := Lib.hid hown1
        clear hown1
        have HB0' : Hid (pA < wx3.heap.size) := Lib.hid (Bk.lt HZ0.out)
        clear HB0
        have HB0 := HB0'
        clear HB0'
        have HB1' : Hid (pB < wx3.heap.size) := Lib.hid (Bk.lt HZ1.out)
        clear HB1
        have HB1 := HB1'
        clear HB1'
        refine hK.out _ _ (hHeld3.then0 hfx3) (fun hHeld4 => ?_)
        clear hK K hHeld3
        clear hfx3
        change wpAnyH _ _ _ _ _ 2 #[true, true, true, true, true, true, false, false] _ _
        refine wpAnyH_ready (rs := [6]) (by kernel_rfl) (by simp) ?_
        refine AllReadyH.cons rfl (fun K hK => ?_) AllReadyH.nil
        simp only [List.getElem_toArray, List.getElem_cons_succ, List.getElem_cons_zero]
        refine (if_pos (by kernel_rfl)).mpr ?_
        refine wp_store_row 39 _ _ rfl pA (dval d s1 n1 c1 m1) rfl rfl 39 DZ HZ0.out (HID.out _ _ _ _ _) rfl (HDO.out _ _ _ _ _) ?_
        have hfx4 := Fr.row1 wx3 pA (dval d s1 n1 c1 m1)
        have HZ1' := Lib.hid ((show Bk (wx3.setRow pA (dval d s1 n1 c1 m1)) pB RZ 24 from ArrKit.Bk.rowOther HZ1.out _ (HPQ.out.symm)))
        clear HZ1
        have HZ1 := HZ1'
        clear HZ1'
        have HO0' := Lib.hid (DV.past HO0.out HOK.out hfx4 HZ0.out DZ_no)
        clear HO0
        have HO0 := HO0'
        clear HO0'
        have HO1' := Lib.hid (RV.past HO1.out hfx4 (show Bk _ _ (dval ⟨[], [], 0, false⟩ none 0 none 0) 39 from HZ0.out))
        clear HO1
        have HO1 := HO1'
        clear HO1'
        have HX0' : Hid (Bk (wx3.setRow pA (dval d s1 n1 c1 m1)) pA (dval d s1 n1 c1 m1) 39) := Lib.hid (ArrKit.Bk.row HZ0.out _)
        clear HZ0
        have HZ0 := HX0'
        clear HX0'
        refine hK.out _ _ (ArrKit.Fr.row hHeld4 _ _ (.inl HLO0.out)) (fun hHeld5 => ?_)
        clear hK K hHeld4
        clear hfx4
        generalize (wx3.setRow pA (dval d s1 n1 c1 m1)) = wx4 at *
        change wpAnyH _ _ _ _ _ 1 #[true, true, true, true, true, true, true, false] _ _
        refine wpAnyH_ready (rs := [7]) (by kernel_rfl) (by simp) ?_
        refine AllReadyH.cons rfl (fun K hK => ?_) AllReadyH.nil
        simp only [List.getElem_toArray, List.getElem_cons_succ, List.getElem_cons_zero]
        refine (if_pos (by kernel_rfl)).mpr ?_
        refine wp_store_row 24 _ _ rfl pB (rval m a2 k2) rfl rfl 24 RZ HZ1.out (HIR.out _ _ _) rfl (HRO.out _ _ _) ?_
        have hfx5 := Fr.row1 wx4 pB (rval m a2 k2)
        have HZ0' := Lib.hid ((show Bk (wx4.setRow pB (rval m a2 k2)) pA (dval d s1 n1 c1 m1) 39 from ArrKit.Bk.rowOther HZ0.out _ (HPQ.out)))
        clear HZ0
        have HZ0 := HZ0'
        clear HZ0'
        have HO0' := Lib.hid (DV_past HO0.out HOK.out hfx5 HZ1.out (rc_no 0 none 0 0))
        clear HO0
        have HO0 := HO0'
        clear HO0'
        have HO1' := Lib.hid (RV.pastR HO1.out hfx5 HZ1.out)
        clear HO1
        have HO1 := HO1'
        clear HO1'
        have HX1' : Hid (Bk (wx4.setRow pB (rval m a2 k2)) pB (rval m a2 k2) 24) := Lib.hid (ArrKit.Bk.row HZ1.out _)
        clear HZ1
        have HZ1 := HX1'
        clear HX1'
        refine hK.out _ _ (ArrKit.Fr.row hHeld5 _ _ (.inl HLO1.out)) (fun hHeld6 => ?_)
        clear hK K hHeld5
        clear hfx5
        generalize (wx4.setRow pB (rval m a2 k2)) = wx5 at *
        change wpAnyH _ _ _ _ _ 0 #[true, true, true, true, true, true, true, true] _ _
        refine wpAnyH_done (by kernel_rfl) ?_ _
        refine NoPanic.normal ?_
        have HEND := Lib.hid hHeld6
        clear hHeld6
        exact HREST.out wx5 pA pB s1 n1 c1 m1 a2 k2 HEND.out ⟨HZ0.out, HO0.out⟩ HZ1.out HO1.out HPQ.out HLO0.out HLO1.out
    · simp only [List.getElem_toArray, List.getElem_cons_succ, List.getElem_cons_zero]
      refine (if_pos (by kernel_rfl)).mpr ?_
      go_wp2_with fail
      have hfx0 : Fr (fun _ => False) wd (wd.alloc (.cells RZ 24)) := Fr.alloc (Fr.refl _ _) _
      have HLO1 : Hid (w2.heap.size ≤ wd.heap.size) := Lib.hid (Fr.size hHeld0)
      have HZ1 : Hid (Bk (wd.alloc (.cells RZ 24)) wd.heap.size RZ 24) := Lib.hid (Bk.new wd _)
      have HB1 : Hid (wd.heap.size < (wd.alloc (.cells RZ 24)).heap.size) := Lib.hid (Bk.lt HZ1.out)
      refine hK.out _ _ (hHeld0.then0 hfx0) (fun hHeld1 => ?_)
      clear hK K hHeld0
      clear hfx0
      generalize wd.heap.size = pB at *
      generalize (wd.alloc (.cells RZ 24)) = wx0 at *
      change wpAnyH _ _ _ _ _ 5 #[true, false, true, false, false, true, false, false] _ _
      refine wpAnyH_ready (rs := [1, 4]) (by kernel_rfl) (by simp) ?_
      refine AllReadyH.cons rfl (fun K hK => ?_) (AllReadyH.cons rfl (fun K hK => ?_) (AllReadyH.nil))
      · simp only [List.getElem_toArray, List.getElem_cons_succ, List.getElem_cons_zero]
        refine (if_pos (by kernel_rfl)).mpr ?_
        go_wp2_with fail
        refine (HDC.out _ (HF2.out.then0 hHeld1)).mono ?_
        rintro e wx1 ⟨s1, n1, c1, m1, rfl, hown0, hfx1⟩
        dsimp only
        have HZ1' := Lib.hid (hfx1.keep HZ1.out (fun h => h))
        clear HZ1
        have HZ1 := HZ1'
        clear HZ1'
        have HO0 := Lib.hid hown0
        clear hown0
        have HB1' : Hid (pB < wx1.heap.size) := Lib.hid (Bk.lt HZ1.out)
        clear HB1
        have HB1 := HB1'
        clear HB1'
        refine hK.out _ _ (hHeld1.then0 hfx1) (fun hHeld2 => ?_)
        clear hK K hHeld1
        clear hfx1
        change wpAnyH _ _ _ _ _ 4 #[true, true, true, false, false, true, false, false] _ _
        refine wpAnyH_ready (rs := [3, 4]) (by kernel_rfl) (by simp) ?_
        refine AllReadyH.cons rfl (fun K hK => ?_) (AllReadyH.cons rfl (fun K hK => ?_) (AllReadyH.nil))
        · simp only [List.getElem_toArray, List.getElem_cons_succ, List.getElem_cons_zero]
          refine (if_pos (by kernel_rfl)).mpr ?_
          go_wp2_with fail
          refine (HRC.out _ (HF2.out.then0 hHeld2)).mono ?_
          rintro e wx2 ⟨a2, k2, rfl, hown1, hfx2⟩
          dsimp only
          have HZ1' := Lib.hid (hfx2.keep HZ1.out (fun h => h))
          clear HZ1
          have HZ1 := HZ1'
          clear HZ1'
          have HO0' := Lib.hid (DV.keep HO0.out hfx2)
          clear HO0
          have HO0 := HO0'
          clear HO0'
          have HO1 := Lib.hid hown1
          clear hown1
          have HB1' : Hid (pB < wx2.heap.size) := Lib.hid (Bk.lt HZ1.out)
          clear HB1
          have HB1 := HB1'
          clear HB1'
          refine hK.out _ _ (hHeld2.then0 hfx2) (fun hHeld3 => ?_)
          clear hK K hHeld2
          clear hfx2
          change wpAnyH _ _ _ _ _ 3 #[true, true, true, true, false, true, false, false] _ _
          refine wpAnyH_ready (rs := [4]) (by kernel_rfl) (by simp) ?_
          refine AllReadyH.cons rfl (fun K hK => ?_) AllReadyH.nil
          simp only [List.getElem_toArray, List.getElem_cons_succ, List.getElem_cons_zero]
          refine (if_pos (by kernel_rfl)).mpr ?_
          go_wp2_with fail
          have hfx3 : Fr (fun _ => False) wx2 (wx2.alloc (.cells DZ 39)) := Fr.alloc (Fr.refl _ _) _
          have HLO0 : Hid (w2.heap.size ≤ wx2.heap.size) := Lib.hid (Fr.size hHeld3)
          have HPQ : Hid (wx2.heap.size ≠ pB) := Lib.hid (by have h1 := Bk.lt HZ1.out; omega)
          have HZ1' := Lib.hid (hfx3.keep HZ1.out (fun h => h))
          clear HZ1
          have HZ1 := HZ1'
          clear HZ1'
          have HO0' := Lib.hid (DV.keep HO0.out hfx3)
          clear HO0
          have HO0 := HO0'
          clear HO0'
          have HO1' := Lib.hid (RV.keep HO1.out hfx3)
          clear HO1
          have HO1 := HO1'
          clear HO1'
          have HZ0 : Hid (Bk (wx2.alloc (.cells DZ 39)) wx2.heap.size DZ 39) := Lib.hid (Bk.new wx2 _)
          have HB0 : Hid (wx2.heap.size < (wx2.alloc (.cells DZ 39)).heap.size) := Lib.hid (Bk.lt HZ0.out)
          have HB1' : Hid (pB < (wx2.alloc (.cells DZ 39)).heap.size) := Lib.hid (Bk.lt HZ1.out)
          clear HB1
          have HB1 := HB1'
          clear HB1'
          refine hK.out _ _ (hHeld3.then0 hfx3) (fun hHeld4 => ?_)
          clear hK K hHeld3
          clear hfx3
          generalize wx2.heap.size = pA at *
          generalize (wx2.alloc (.cells DZ 39)) = wx3 at *
          change wpAnyH _ _ _ _ _ 2 #[true, true, true, true, true, true, false, false] _ _
          refine wpAnyH_ready (rs := [6]) (by kernel_rfl) (by simp) ?_
          refine AllReadyH.cons rfl (fun K hK => ?_) AllReadyH.nil
          simp only [List.getElem_toArray, List.getElem_cons_succ, List.getElem_cons_zero]
          refine (if_pos (by kernel_rfl)).mpr ?_
          refine wp_store_row 39 _ _ rfl pA (dval d s1 n1 c1 m1) rfl rfl 39 DZ HZ0.out (HID.out _ _ _ _ _) rfl (HDO.out _ _ _ _ _) ?_
          have hfx4 := Fr.row1 wx3 pA (dval d s1 n1 c1 m1)
          have HZ1' := Lib.hid ((show Bk (wx3.setRow pA (dval d s1 n1 c1 m1)) pB RZ 24 from ArrKit.Bk.rowOther HZ1.out _ (HPQ.out.symm)))
          clear HZ1
          have HZ1 := HZ1'
          clear HZ1'
          have HO0' := Lib.hid (DV.past HO0.out HOK.out hfx4 HZ0.out DZ_no)
          clear HO0
          have HO0 := HO0'
          clear HO0'
          have HO1' := Lib.hid (RV.past HO1.out hfx4 (show Bk _ _ (dval ⟨[], [], 0, false⟩ none 0 none 0) 39 from HZ0.out))
          clear HO1
          have HO1 := HO1'
          clear HO1'
          have HX0' : Hid (Bk (wx3.setRow pA (dval d s1 n1 c1 m1)) pA (dval d s1 n1 c1 m1) 39) := Lib.hid (ArrKit.Bk.row HZ0.out _)
          clear HZ0
          have HZ0 := HX0'
          clear HX0'
          refine hK.out _ _ (ArrKit.Fr.row hHeld4 _ _ (.inl HLO0.out)) (fun hHeld5 => ?_)
          clear hK K hHeld4
          clear hfx4
          generalize (wx3.setRow pA (dval d s1 n1 c1 m1)) = wx4 at *
          change wpAnyH _ _ _ _ _ 1 #[true, true, true, true, true, true, true, false] _ _
          refine wpAnyH_ready (rs := [7]) (by kernel_rfl) (by simp) ?_
          refine AllReadyH.cons rfl (fun K hK => ?_) AllReadyH.nil
          simp only [List.getElem_toArray, List.getElem_cons_succ, List.getElem_cons_zero]
          refine (if_pos (by kernel_rfl)).mpr ?_
          refine wp_store_row 24 _ _ rfl pB (rval m a2 k2) rfl rfl 24 RZ HZ1.out (HIR.out _ _ _) rfl (HRO.out _ _ _) ?_
          have hfx5 := Fr.row1 wx4 pB (rval m a2 k2)
          have HO0' := Lib.hid (DV_past HO0.out HOK.out hfx5 HZ1.out (rc_no 0 none 0 0))
          clear HO0
          have HO0 := HO0'
          clear HO0'
          have HO1' := Lib.hid (RV.pastR HO1.out hfx5 HZ1.out)
          clear HO1
          have HO1 := HO1'
          clear HO1'
          have HZ0' := Lib.hid ((show Bk (wx4.setRow pB (rval m a2 k2)) pA (dval d s1 n1 c1 m1) 39 from ArrKit.Bk.rowOther HZ0.out _ (HPQ.out)))
          clear HZ0
          have HZ0 := HZ0'
          clear HZ0'
          have HX1' : Hid (Bk (wx4.setRow pB (rval m a2 k2)) pB (rval m a2 k2) 24) := Lib.hid (ArrKit.Bk.row HZ1.out _)
          clear HZ1
          have HZ1 := HX1'
          clear HX1'
          refine hK.out _ _ (ArrKit.Fr.row hHeld5 _ _ (.inl HLO1.out)) (fun hHeld6 => ?_)
          clear hK K hHeld5
          clear hfx5
          generalize (wx4.setRow pB (rval m a2 k2)) = wx5 at *
          change wpAnyH _ _ _ _ _ 0 #[true, true, true, true, true, true, true, true] _ _
          refine wpAnyH_done (by kernel_rfl) ?_ _
          refine NoPanic.normal ?_
          have HEND := Lib.hid hHeld6
          clear hHeld6
          exact HREST.out wx5 pA pB s1 n1 c1 m1 a2 k2 HEND.out ⟨HZ0.out, HO0.out⟩ HZ1.out HO1.out HPQ.out HLO0.out HLO1.out
        · simp only [List.getElem_toArray, List.getElem_cons_succ, List.getElem_cons_zero]
          refine (if_pos (by kernel_rfl)).mpr ?_
          go_wp2_with fail
          have hfx2 : Fr (fun _ => False) wx1 (wx1.alloc (.cells DZ 39)) := Fr.alloc (Fr.refl _ _) _
          have HLO0 : Hid (w2.heap.size ≤ wx1.heap.size) := Lib.hid (Fr.size hHeld2)
          have HPQ : Hid (wx1.heap.size ≠ pB) := Lib.hid (by have h1 := Bk.lt HZ1.out; omega)
          have HZ1' := Lib.hid (hfx2.keep HZ1.out (fun h => h))
          clear HZ1
          have HZ1 := HZ1'
          clear HZ1'
          have HO0' := Lib.hid (DV.keep HO0.out hfx2)
          clear HO0
          have HO0 := HO0'
          clear HO0'
          have HZ0 : Hid (Bk (wx1.alloc (.cells DZ 39)) wx1.heap.size DZ 39) := Lib.hid (Bk.new wx1 _)
          have HB0 : Hid (wx1.heap.size < (wx1.alloc (.cells DZ 39)).heap.size) := Lib.hid (Bk.lt HZ0.out)
          have HB1' : Hid (pB < (wx1.alloc (.cells DZ 39)).heap.size) := Lib.hid (Bk.lt HZ1.out)
          clear HB1
          have HB1 := HB1'
          clear HB1'
          refine hK.out _ _ (hHeld2.then0 hfx2) (fun hHeld3 => ?_)
          clear hK K hHeld2
          clear hfx2
          generalize wx1.heap.size = pA at *
          generalize (wx1.alloc (.cells DZ 39)) = wx2 at *
          change wpAnyH _ _ _ _ _ 3 #[true, true, true, false, true, true, false, false] _ _
          refine wpAnyH_ready (rs := [3]) (by kernel_rfl) (by simp) ?_
          refine AllReadyH.cons rfl (fun K hK => ?_) AllReadyH.nil
          simp only [List.getElem_toArray, List.getElem_cons_succ, List.getElem_cons_zero]
          refine (if_pos (by kernel_rfl)).mpr ?_
          go_wp2_with fail
          refine (HRC.out _ (HF2.out.then0 hHeld3)).mono ?_
          rintro e wx3 ⟨a2, k2, rfl, hown1, hfx3⟩
          dsimp only
          have HZ1' := Lib.hid (hfx3.keep HZ1.out (fun h => h))
          clear HZ1
          have HZ1 := HZ1'
          clear HZ1'
          have HO0' := Lib.hid (DV.keep HO0.out hfx3)
          clear HO0
          have HO0 := HO0'
          clear HO0'
          have HZ0' := Lib.hid (hfx3.keep HZ0.out (fun h => h))
          clear HZ0
          have HZ0 := HZ0'
          clear HZ0'
          have HO1 := Lib.hid hown1
          clear hown1
          have HB0' : Hid (pA < wx3.heap.size) := Lib.hid (Bk.lt HZ0.out)
          clear HB0
          have HB0 := HB0'
          clear HB0'
          have HB1' : Hid (pB < wx3.heap.size) := Lib.hid (Bk.lt HZ1.out)
          clear HB1
          have HB1 := HB1'
          clear HB1'
          refine hK.out _ _ (hHeld3.then0 hfx3) (fun hHeld4 => ?_)
          clear hK K hHeld3
          clear hfx3
          change wpAnyH _ _ _ _ _ 2 #[true, true, true, true, true, true, false, false] _ _
          refine wpAnyH_ready (rs := [6]) (by kernel_rfl) (by simp) ?_
          refine AllReadyH.cons rfl (fun K hK => ?_) AllReadyH.nil
          simp only [List.getElem_toArray, List.getElem_cons_succ, List.getElem_cons_zero]
          refine (if_pos (by kernel_rfl)).mpr ?_
          refine wp_store_row 39 _ _ rfl pA (dval d s1 n1 c1 m1) rfl rfl 39 DZ HZ0.out (HID.out _ _ _ _ _) rfl (HDO.out _ _ _ _ _) ?_
          have hfx4 := Fr.row1 wx3 pA (dval d s1 n1 c1 m1)
          have HZ1' := Lib.hid ((show Bk (wx3.setRow pA (dval d s1 n1 c1 m1)) pB RZ 24 from ArrKit.Bk.rowOther HZ1.out _ (HPQ.out.symm)))
          clear HZ1
          have HZ1 := HZ1'
          clear HZ1'
          have HO0' := Lib.hid (DV.past HO0.out HOK.out hfx4 HZ0.out DZ_no)
          clear HO0
          have HO0 := HO0'
          clear HO0'
          have HO1' := Lib.hid (RV.past HO1.out hfx4 (show Bk _ _ (dval ⟨[], [], 0, false⟩ none 0 none 0) 39 from HZ0.out))
          clear HO1
          have HO1 := HO1'
          clear HO1'
          have HX0' : Hid (Bk (wx3.setRow pA (dval d s1 n1 c1 m1)) pA (dval d s1 n1 c1 m1) 39) := Lib.hid (ArrKit.Bk.row HZ0.out _)
          clear HZ0
          have HZ0 := HX0'
          clear HX0'
          refine hK.out _ _ (ArrKit.Fr.row hHeld4 _ _ (.inl HLO0.out)) (fun hHeld5 => ?_)
          clear hK K hHeld4
          clear hfx4
          generalize (wx3.setRow pA (dval d s1 n1 c1 m1)) = wx4 at *
          change wpAnyH _ _ _ _ _ 1 #[true, true, true, true, true, true, true, false] _ _
          refine wpAnyH_ready (rs := [7]) (by kernel_rfl) (by simp) ?_
          refine AllReadyH.cons rfl (fun K hK => ?_) AllReadyH.nil
          simp only [List.getElem_toArray, List.getElem_cons_succ, List.getElem_cons_zero]
          refine (if_pos (by kernel_rfl)).mpr ?_
          refine wp_store_row 24 _ _ rfl pB (rval m a2 k2) rfl rfl 24 RZ HZ1.out (HIR.out _ _ _) rfl (HRO.out _ _ _) ?_
          have hfx5 := Fr.row1 wx4 pB (rval m a2 k2)
          have HO0' := Lib.hid (DV_past HO0.out HOK.out hfx5 HZ1.out (rc_no 0 none 0 0))
          clear HO0
          have HO0 := HO0'
          clear HO0'
          have HZ0' := Lib.hid ((show Bk (wx4.setRow pB (rval m a2 k2)) pA (dval d s1 n1 c1 m1) 39 from ArrKit.Bk.rowOther HZ0.out _ (HPQ.out)))
          clear HZ0
          have HZ0 := HZ0'
          clear HZ0'
          have HO1' := Lib.hid (RV.pastR HO1.out hfx5 HZ1.out)
          clear HO1
          have HO1 := HO1'
          clear HO1'
          have HX1' : Hid (Bk (wx4.setRow pB (rval m a2 k2)) pB (rval m a2 k2) 24) := Lib.hid (ArrKit.Bk.row HZ1.out _)
          clear HZ1
          have HZ1 := HX1'
          clear HX1'
          refine hK.out _ _ (ArrKit.Fr.row hHeld5 _ _ (.inl HLO1.out)) (fun hHeld6 => ?_)
          clear hK K hHeld5
          clear hfx5
          generalize (wx4.setRow pB (rval m a2 k2)) = wx5 at *
          change wpAnyH _ _ _ _ _ 0 #[true, true, true, true, true, true, true, true] _ _
          refine wpAnyH_done (by kernel_rfl) ?_ _
          refine NoPanic.normal ?_
          have HEND := Lib.hid hHeld6
          clear hHeld6
          exact HREST.out wx5 pA pB s1 n1 c1 m1 a2 k2 HEND.out ⟨HZ0.out, HO0.out⟩ HZ1.out HO1.out HPQ.out HLO0.out HLO1.out
      · simp only [List.getElem_toArray, List.getElem_cons_succ, List.getElem_cons_zero]
        refine (if_pos (by kernel_rfl)).mpr ?_
        go_wp2_with fail
        have hfx1 : Fr (fun _ => False) wx0 (wx0.alloc (.cells DZ 39)) := Fr.alloc (Fr.refl _ _) _
        have HLO0 : Hid (w2.heap.size ≤ wx0.heap.size) := Lib.hid (Fr.size hHeld1)
        have HPQ : Hid (wx0.heap.size ≠ pB) := Lib.hid (by have h1 := Bk.lt HZ1.out; omega)
        have HZ1' := Lib.hid (hfx1.keep HZ1.out (fun h => h))
        clear HZ1
        have HZ1 := HZ1'
        clear HZ1'
        have HZ0 : Hid (Bk (wx0.alloc (.cells DZ 39)) wx0.heap.size DZ 39) := Lib.hid (Bk.new wx0 _)
        have HB0 : Hid (wx0.heap.size < (wx0.alloc (.cells DZ 39)).heap.size) := Lib.hid (Bk.lt HZ0.out)
        have HB1' : Hid (pB < (wx0.alloc (.cells DZ 39)).heap.size) := Lib.hid (Bk.lt HZ1.out)
        clear HB1
        have HB1 := HB1'
        clear HB1'
        refine hK.out _ _ (hHeld1.then0 hfx1) (fun hHeld2 => ?_)
        clear hK K hHeld1
        clear hfx1
        generalize wx0.heap.size = pA at *
        generalize (wx0.alloc (.cells DZ 39)) = wx1 at *
        change wpAnyH _ _ _ _ _ 4 #[true, false, true, false, true, true, false, false] _ _
        refine wpAnyH_ready (rs := [1]) (by kernel_rfl) (by simp) ?_
        refine AllReadyH.cons rfl (fun K hK => ?_) AllReadyH.nil
        simp only [List.getElem_toArray, List.getElem_cons_succ, List.getElem_cons_zero]
        refine (if_pos (by kernel_rfl)).mpr ?_
        go_wp2_with fail
        refine (HDC.out _ (HF2.out.then0 hHeld2)).mono ?_
        rintro e wx2 ⟨s1, n1, c1, m1, rfl, hown0, hfx2⟩
        dsimp only
        have HZ1' := Lib.hid (hfx2.keep HZ1.out (fun h => h))
        clear HZ1
        have HZ1 := HZ1'
        clear HZ1'
        have HZ0' := Lib.hid (hfx2.keep HZ0.out (fun h => h))
        clear HZ0
        have HZ0 := HZ0'
        clear HZ0'
        have HO0 := Lib.hid hown0
        clear hown0
        have HB0' : Hid (pA < wx2.heap.size) := Lib.hid (Bk.lt HZ0.out)
        clear HB0
        have HB0 := HB0'
        clear HB0'
        have HB1' : Hid (pB < wx2.heap.size) := Lib.hid (Bk.lt HZ1.out)
        clear HB1
        have HB1 := HB1'
        clear HB1'
        refine hK.out _ _ (hHeld2.then0 hfx2) (fun hHeld3 => ?_)
        clear hK K hHeld2
        clear hfx2
        change wpAnyH _ _ _ _ _ 3 #[true, true, true, false, true, true, false, false] _ _
        refine wpAnyH_ready (rs := [3]) (by kernel_rfl) (by simp) ?_
        refine AllReadyH.cons rfl (fun K hK => ?_) AllReadyH.nil
        simp only [List.getElem_toArray, List.getElem_cons_succ, List.getElem_cons_zero]
        refine (if_pos (by kernel_rfl)).mpr ?_
        go_wp2_with fail
        refine (HRC.out _ (HF2.out.then0 hHeld3)).mono ?_
        rintro e wx3 ⟨a2, k2, rfl, hown1, hfx3⟩
        dsimp only
        have HZ1' := Lib.hid (hfx3.keep HZ1.out (fun h => h))
        clear HZ1
        have HZ1 := HZ1'
        clear HZ1'
        have HZ0' := Lib.hid (hfx3.keep HZ0.out (fun h => h))
        clear HZ0
        have HZ0 := HZ0'
        clear HZ0'
        have HO0' := Lib.hid (DV.keep HO0.out hfx3)
        clear HO0
        have HO0 := HO0'
        clear HO0'
        have HO1 := Lib.hid hown1
        clear hown1
        have HB0' : Hid (pA < wx3.heap.size) := Lib.hid (Bk.lt HZ0.out)
        clear HB0
        have HB0 := HB0'
        clear HB0'
        have HB1' : Hid (pB < wx3.heap.size) := Lib.hid (Bk.lt HZ1.out)
        clear HB1
        have HB1 := HB1'
        clear HB1'
        refine hK.out _ _ (hHeld3.then0 hfx3) (fun hHeld4 => ?_)
        clear hK K hHeld3
        clear hfx3
        change wpAnyH _ _ _ _ _ 2 #[true, true, true, true, true, true, false, false] _ _
        refine wpAnyH_ready (rs := [6]) (by kernel_rfl) (by simp) ?_
        refine AllReadyH.cons rfl (fun K hK => ?_) AllReadyH.nil
        simp only [List.getElem_toArray, List.getElem_cons_succ, List.getElem_cons_zero]
        refine (if_pos (by kernel_rfl)).mpr ?_
        refine wp_store_row 39 _ _ rfl pA (dval d s1 n1 c1 m1) rfl rfl 39 DZ HZ0.out (HID.out _ _ _ _ _) rfl (HDO.out _ _ _ _ _) ?_
        have hfx4 := Fr.row1 wx3 pA (dval d s1 n1 c1 m1)
        have HZ1' := Lib.hid ((show Bk (wx3.setRow pA (dval d s1 n1 c1 m1)) pB RZ 24 from ArrKit.Bk.rowOther HZ1.out _ (HPQ.out.symm)))
        clear HZ1
        have HZ1 := HZ1'
        clear HZ1'
        have HO0' := Lib.hid (DV.past HO0.out HOK.out hfx4 HZ0.out DZ_no)
        clear HO0
        have HO0 := HO0'
        clear HO0'
        have HO1' := Lib.hid (RV.past HO1.out hfx4 (show Bk _ _ (dval ⟨[], [], 0, false⟩ none 0 none 0) 39 from HZ0.out))
        clear HO1
        have HO1 := HO1'
        clear HO1'
        have HX0' : Hid (Bk (wx3.setRow pA (dval d s1 n1 c1 m1)) pA (dval d s1 n1 c1 m1) 39) := Lib.hid (ArrKit.Bk.row HZ0.out _)
        clear HZ0
        have HZ0 := HX0'
        clear HX0'
        refine hK.out _ _ (ArrKit.Fr.row hHeld4 _ _ (.inl HLO0.out)) (fun hHeld5 => ?_)
        clear hK K hHeld4
        clear hfx4
        generalize (wx3.setRow pA (dval d s1 n1 c1 m1)) = wx4 at *
        change wpAnyH _ _ _ _ _ 1 #[true, true, true, true, true, true, true, false] _ _
        refine wpAnyH_ready (rs := [7]) (by kernel_rfl) (by simp) ?_
        refine AllReadyH.cons rfl (fun K hK => ?_) AllReadyH.nil
        simp only [List.getElem_toArray, List.getElem_cons_succ, List.getElem_cons_zero]
        refine (if_pos (by kernel_rfl)).mpr ?_
        refine wp_store_row 24 _ _ rfl pB (rval m a2 k2) rfl rfl 24 RZ HZ1.out (HIR.out _ _ _) rfl (HRO.out _ _ _) ?_
        have hfx5 := Fr.row1 wx4 pB (rval m a2 k2)
        have HZ0' := Lib.hid ((show Bk (wx4.setRow pB (rval m a2 k2)) pA (dval d s1 n1 c1 m1) 39 from ArrKit.Bk.rowOther HZ0.out _ (HPQ.out)))
        clear HZ0
        have HZ0 := HZ0'
        clear HZ0'
        have HO0' := Lib.hid (DV_past HO0.out HOK.out hfx5 HZ1.out (rc_no 0 none 0 0))
        clear HO0
        have HO0 := HO0'
        clear HO0'
        have HO1' := Lib.hid (RV.pastR HO1.out hfx5 HZ1.out)
        clear HO1
        have HO1 := HO1'
        clear HO1'
        have HX1' : Hid (Bk (wx4.setRow pB (rval m a2 k2)) pB (rval m a2 k2) 24) := Lib.hid (ArrKit.Bk.row HZ1.out _)
        clear HZ1
        have HZ1 := HX1'
        clear HX1'
        refine hK.out _ _ (ArrKit.Fr.row hHeld5 _ _ (.inl HLO1.out)) (fun hHeld6 => ?_)
        clear hK K hHeld5
        clear hfx5
        generalize (wx4.setRow pB (rval m a2 k2)) = wx5 at *
        change wpAnyH _ _ _ _ _ 0 #[true, true, true, true, true, true, true, true] _ _
        refine wpAnyH_done (by kernel_rfl) ?_ _
        refine NoPanic.normal ?_
        have HEND := Lib.hid hHeld6
        clear hHeld6
        exact HREST.out wx5 pA pB s1 n1 c1 m1 a2 k2 HEND.out ⟨HZ0.out, HO0.out⟩ HZ1.out HO1.out HPQ.out HLO0.out HLO1.out

end Go.Proofs.YtlleandelcjhjaaDoor.RmBackLaw
