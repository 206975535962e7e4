/- The theorems that the claim uses, text behind text (part 27). -/
import Derived.Test.YtmkmpfnadcmcoaaGreatDoorYau
import Derived.Test.YtmkmpfnadcmcoaaGreatDoorYav
import Derived.Test.YtmkmpfnadcmcoaaGreatDoorYaz
set_option maxRecDepth 100000
set_option maxHeartbeats 8000000
set_option linter.unusedVariables false
set_option linter.unusedSimpArgs false
namespace Go.Proofs.YtmkmpfnadcmcoaaGreatDoor.RmWrite
open Go Go.RowKit K EqKit ArrKit HeldKit GKit GRow DiskKit RmKit MapKit RmRight RmRRight RmTab RmPut RmAsk RmSame DiskRRead RmRead RmReads DiskAct RmSpare RmKeep RmFirst RmAliveP RmWrX RowG
abbrev RowP (w : World) (base : Nat) (v : Value) (l : List (Int × Int)) : Prop := Row PR 2 70 w base v l
theorem Row.less {w : World} {b0 base : Nat} {v : Value} {l : List (Int × Int)} (h : RowP w base v l) (hb : b0 ≤ base) : RowP w b0 v l := by
 rcases h with h | ⟨g, cap, cur, rfl, hb', ho⟩
 ·exact .inl h
 ·exact .inr ⟨g, cap, cur, rfl, by omega, ho⟩
theorem Row.rv {w : World} {base g : Nat} {a : Option Addr} {L c : Nat} {m : Rm} (h : RowP w base (.slice a L c) m.ps) : L = m.ps.length ∧ RV w m a c := by
 obtain ⟨a', c', e, h1, h2, h3, -⟩ := h.form
 injection e with e1 e2 e3
 subst e1 e2 e3
 exact ⟨rfl, h3, h1, h2⟩
theorem own_to {w : World} {g cap : Nat} {cur : Array Value} {l : List (Int × Int)} (h : OwnP w g cap cur l) {k : Nat} (hk : k < l.length) {n : Int} (hn : l[k].1 = n) (to : Int) : OwnP (w.setCell ⟨g, k * 2 + 1, none⟩ (.int .i64 to)) g cap (cur.setIfInBounds (k * 2 + 1) (.int .i64 to)) (l.set k (n, to)) := by
 have h0 := h.here k hk 0 (.int .i64 n) (by rw [← hn];rfl)
 have h1 := h.here k hk 1 (.int .i64 l[k].2) rfl
 have hs : k * 2 + 1 < cur.size := (Array.getElem?_eq_some_iff.1 h1).1
 refine OwnG.set h (fun _ _ => rfl) hk (n, to) rfl _ _ (Bk.set h.blk _ _) (by rw [Array.size_setIfInBounds]) (fun j u hj => ?_) (fun q hq => by rw [Array.getElem?_setIfInBounds, if_neg (by omega)])
 rcases (show j = 0 ∨ j = 1 ∨ 2 ≤ j by omega) with rfl | rfl | h2
 ·rw [Array.getElem?_setIfInBounds, if_neg (by omega), ← Option.some.inj hj];exact h0
 ·rw [Array.getElem?_setIfInBounds, if_pos rfl, if_pos hs, ← Option.some.inj hj]
 ·rw [List.getElem?_eq_none (show (PR (n, to)).length ≤ j from h2)] at hj;cases hj
theorem clone_calls (l : List (Int × Int)) (a : Option Addr) (L c : Nat) (w : World) (hL : l.length = L) (hr : RdP w a l) (hlen : L ≤ 8796093022208) : Calls Tryz.prog 61 #[.slice a L c] w fun e w' => ∃ a' c', e = .returned (.slice a' L c') ∧ RowP w' w.heap.size (.slice a' L c') l ∧ Fr0 w w' := by
 have hes := @Lib.run_eql_slice_nil Tryz.prog
 cases a with
 | none =>
  have h0 := GApp.RdG.none_len hr
  obtain rfl := List.length_eq_zero_iff.1 h0
  rw [h0] at hL
  subst hL
  go_enter Tryz.func61, Tryz.ntmps61
  go_wp2
  go_ret
  exact ⟨none, 0, rfl, .inl ⟨rfl, rfl⟩, Fr.refl _ _⟩
 | some b =>
  obtain ⟨i1, hy0, hz0, hz1, hz2⟩ := info_parts infoPr
  have HJ : Jq7 (Tryz.prog.info? 70 = some i1 ∧ i1.zero = some (.agg PZ2) ∧ i1.size = 2 ∧ i1.bytes = 16) := jq7 ⟨hy0, hz0, hz1, hz2⟩
  clear hy0 hz0 hz1 hz2
  have HE : Jq7 (Bk (w.alloc (.cells #[] 70)) w.heap.size #[] 70) := jq7 (Bk.new _ _)
  have HF : Jq7 (Fr0 w (w.alloc (.cells #[] 70))) := jq7 (Fr.alloc (Fr.refl _ _) _)
  have HRD := jq7 (hr.keep HF.o)
  have HLL := jq7 hL
  clear hr hL
  go_enter Tryz.func61, Tryz.ntmps61
  go_wp2_with (first | ((with_reducible show wkq (.buildSlice 26 0 _) _);refine wpList_plain rfl fun K hK => ?_;refine GApp.wp_buildSlice_nil 26 rfl 70 i1 Tryz.underlying26 HJ.o.1 ?_;refine hK _ _ ?_) | (at_builtin;refine wpList_append_all rfl (.tmp 5) (.tmp 6) 26 (by rfl) i1 (.agg PZ2) 16 Tryz.underlying26 HJ.o.1 HJ.o.2.1 HJ.o.2.2.1 HJ.o.2.2.2 rfl (by decide) w.heap.size HE.o (by rfl) (some b) L c (by rfl) l HLL.o HRD.o (fun x _ => PR_len x) (fun x _ => PR_one x) (by omega) (by omega) ?_;intro g cap cur w1 hge hown hfr;have HO1 := jq7 hown;have HF1 : Jq7 (Fr0 w w1) := jq7 (Fr.newG HF.o hfr (by omega));have HGE := jq7 hge;clear hge hown hfr))
  go_ret
  exact ⟨some ⟨g, 0, none⟩, cap, rfl, .inr ⟨g, cap, cur, by rw [HLL.o], HGE.o, HO1.o⟩, HF1.o⟩
theorem built_rv (x : Int) (a : Option Addr) (L c : Nat) : Tryz.prog.built 28 [(0, .int .i64 x), (1, .slice a L c)] = some (RC x (.slice a L c)) := by kernel_rfl

theorem atI_wf {m : Rm} {n : Int} (hm : m.ok) (hn : (Lit.int .i64 n).wf = true) : (Lit.int .i64 (atI m n)).wf = true := by
 unfold atI
 split
 ·rename_i x hx;exact (hm.p _ (List.mem_of_find?_eq_some hx)).2
 ·exact hn

theorem wr0 (p r : Nat) (d : Dk) (sa : Option Addr) (sc : Nat) (ca : Option Addr) (cc : Nat) (m : Rm) (a : Option Addr) (c : Nat) (b : List UInt8) (g n : Int) (L : Nat) (w : World) (hg : m.gen = g) (hL : m.ps.length = L) (hok : d.ok) (hv : DAt w p d sa sc ca cc) (hm : m.ok) (hrv : RV w m a c) (hb : b.length = 128) (hR : Bk w r (RC g (.slice a L c)) 28) (hrp : r ≠ p) (hsh : Sh w) (hn : (Lit.int .i64 n).wf = true) (hC : d.C.length ≤ 900) (h1 : askedB d m n = false) : Calls Tryz.prog 31 #[.pointer (some ⟨p, 0, none⟩), .pointer (some ⟨r, 0, none⟩), .int .i64 n, .agg (b.map B).toArray] w fun e w' => e = .returned (.int .i64 1) ∧ DIn w' p d ∧ (∃ a' c', Bk w' r (rval m a' c') 28 ∧ RV w' m a' c') ∧ Fr (fun i => i = p ∨ i = r) w w' := by
 have hrr : rval m a c = (RC g (.slice a L c)) := by unfold rval;rw [hg, hL]
 have HRR := jq7 hrr
 have HV := jq7 hv
 have HR := jq7 hR
 have HRV := jq7 hrv
 have hpw : p < w.heap.size := Bk.lt hv.blk
 have hrw : r < w.heap.size := Bk.lt hR
 have HB1 : Jq7 (Bk (w.alloc (.cells (b.map B).toArray 36)) w.heap.size (b.map B).toArray 36) := jq7 (Bk.new w _)
 have HF1 : Jq7 (Fr0 w (w.alloc (.cells (b.map B).toArray 36))) := jq7 (Fr.alloc (Fr.refl _ _) _)
 have HR1 := jq7 (HF1.o.keep hR (fun h => h))
 have HAS : Jq7 (∀ W, Fr0 w W → Calls Tryz.prog 58 #[.pointer (some ⟨p, 0, none⟩), .agg (RC g (.slice a L c)), .int .i64 n] W fun e w' => e = .returned (.bool false) ∧ Fr0 W w') := jq7 (fun W f => by have := asked_calls p d sa sc ca cc m a c n W hok (hv.keep f) hm (hrv.keep f) hn;rwa [h1, hrr] at this)
 have HIB := jq7 (info_l hb)
 have HIN : Jq7 (∀ x y, (Tryz.prog.info? 28).map (·.size) = some (RC x y).size) := jq7 (fun _ _ => info_r _ _)
 have hzr := zero_r
 clear hrr hok hv hR hrv hsh h1 hb hn hm hC hg hL
 have q0 : w.cell? ⟨r, 0, none⟩ = some (.int .i64 g) := Bk.cell HR.o 0
 have q1 : w.cell? ⟨r, 1, none⟩ = some (.slice a L c) := Bk.cell HR.o 1
 go_enter Tryz.func31, Tryz.ntmps31
 go_wp2_with (first | ((with_reducible show wkq (.load 28 _) _);refine lr 28 r (RC g (.slice a L c)) HR1.o (HIN.o _ _) ?_) | (go_at_call 58;(with_reducible refine (HAS.o _ HF1.o).mono ?_);rintro e w2 ⟨rfl, hf2⟩;have HF2 := fq0 HF1 hf2;have HB2 := kq0 hf2 HB1;have HR2 := kq0 hf2 HR1;clear hf2))
 go_ret
 exact ⟨rfl, ⟨_, _, _, _, HV.o.keep HF2.o⟩, ⟨a, c, by rw [HRR.o];exact HR2.o, HRV.o.keep HF2.o⟩, HF2.o.weaken (fun _ _ h => h.elim)⟩
theorem wr_parts {E E' : Int} {D D' : Dk} {M M' : Rm} (h : (E, D, M) = (E', D', M')) : E = E' ∧ D = D' ∧ M = M' := by
 injection h with h1 h
 injection h with h2 h3
 exact ⟨h1, h2, h3⟩

theorem wr1 (p r : Nat) (d : Dk) (sa : Option Addr) (sc : Nat) (ca : Option Addr) (cc : Nat) (m : Rm) (a : Option Addr) (c : Nat) (b : List UInt8) (g n : Int) (L : Nat) (w : World) (hg : m.gen = g) (hL : m.ps.length = L) (hok : d.ok) (hv : DAt w p d sa sc ca cc) (hm : m.ok) (hrv : RV w m a c) (hb : b.length = 128) (hR : Bk w r (RC g (.slice a L c)) 28) (hrp : r ≠ p) (hsh : Sh w) (hn : (Lit.int .i64 n).wf = true) (hC : d.C.length ≤ 900) (h1 : askedB d m n = true) (E0 : Int) (D0 : Dk) (M0 : Rm) (hX : wrX d m n b = (E0, D0, M0)) : Calls Tryz.prog 31 #[.pointer (some ⟨p, 0, none⟩), .pointer (some ⟨r, 0, none⟩), .int .i64 n, .agg (b.map B).toArray] w fun e w' => e = .returned (.int .i64 E0) ∧ DIn w' p D0 ∧ (∃ a' c', Bk w' r (rval M0 a' c') 28 ∧ RV w' M0 a' c') ∧ Fr (fun i => i = p ∨ i = r) w w' := by
 have hrr : rval m a c = (RC g (.slice a L c)) := by unfold rval;rw [hg, hL]
 have HRR := jq7 hrr
 have HV := jq7 hv
 have HR := jq7 hR
 have HRV := jq7 hrv
 have hpw : p < w.heap.size := Bk.lt hv.blk
 have hrw : r < w.heap.size := Bk.lt hR
 have HB1 : Jq7 (Bk (w.alloc (.cells (b.map B).toArray 36)) w.heap.size (b.map B).toArray 36) := jq7 (Bk.new w _)
 have HF1 : Jq7 (Fr0 w (w.alloc (.cells (b.map B).toArray 36))) := jq7 (Fr.alloc (Fr.refl _ _) _)
 have HR1 := jq7 (HF1.o.keep hR (fun h => h))
 have HAS : Jq7 (∀ W, Fr0 w W → Calls Tryz.prog 58 #[.pointer (some ⟨p, 0, none⟩), .agg (RC g (.slice a L c)), .int .i64 n] W fun e w' => e = .returned (.bool true) ∧ Fr0 W w') := jq7 (fun W f => by have := asked_calls p d sa sc ca cc m a c n W hok (hv.keep f) hm (hrv.keep f) hn;rwa [h1, hrr] at this)
 have HIB := jq7 (info_l hb)
 have HIN : Jq7 (∀ x y, (Tryz.prog.info? 28).map (·.size) = some (RC x y).size) := jq7 (fun _ _ => info_r _ _)
 have hzr := zero_r
 have hap := asked_parts h1
 have h20 : L ≤ 20 := by rw [← hL];exact tab_len hap.1
 have hg0 : 0 ≤ g ∧ g ≤ 4611686018427387904 := by have := tab_parts hap.1;rw [hg] at this;exact ⟨this.2.1, this.2.2.1⟩
 have hln : m.ps.length ≤ 8796093022208 := by omega
 have haw : (Lit.int .i64 (atI m n)).wf = true := atI_wf hm hn
 have hlo := half_lo hap.2.2.2.2
 have hS := hap.2.2.2.2
 have HAT : Jq7 (∀ W, RV W m a c → Calls Tryz.prog 59 #[.agg (RC g (.slice a L c)), .int .i64 n] W fun e w' => e = .returned (.int .i64 (atI m n)) ∧ Fr0 W w') := jq7 (fun W hr => by have := at_calls m a c n W hr hln;rwa [hrr] at this)
 have HPC : Jq7 (∀ W, RV W m a c → Calls Tryz.prog 62 #[.agg (RC g (.slice a L c)), .int .i64 n] W fun e w' => e = .returned (.int .i64 (plc m n)) ∧ Fr0 W w') := jq7 (fun W hr => by have := place_calls m a c n W hr hln;rwa [hrr] at this)
 have HWR : Jq7 (∀ W, DAt W p d sa sc ca cc → Calls Tryz.prog 55 #[.pointer (some ⟨p, 0, none⟩), .int .i64 (atI m n), .agg (b.map B).toArray] W fun e w' => e = .returned (.int .i64 (writeE d (atI m n))) ∧ Now W w' p (writeD d (atI m n) b)) := jq7 (fun W h => DiskWrite.write_calls p (atI m n) b d sa sc ca cc W hok h hb (by omega) haw)
 have ho1 := writeD_ok hok hb haw
 have HSR : Jq7 (∀ W s1 n1 c1 k1, DAt W p (writeD d (atI m n) b) s1 n1 c1 k1 → RV W m a c → Calls Tryz.prog 60 #[.pointer (some ⟨p, 0, none⟩), .agg (RC g (.slice a L c)), .agg (b.map B).toArray] W fun e w' => e = .returned (.tuple #[.int .i64 (spX d m n b).1, .int .i64 (spX d m n b).2.1]) ∧ Now W w' p (spX d m n b).2.2) := jq7 (fun W s1 n1 c1 k1 h hr => by
  have := spare_calls p (writeD d (atI m n) b) s1 n1 c1 k1 m a c b W ho1 h hm hr hln hb (Nat.le_trans (writeD_C d (atI m n) b) (by omega)) (by rw [writeD_S];exact hS)
  rw [writeD_S, hrr] at this
  exact this)
 have hsx := spareR_ok (m := m) hb 20 (2 * half (d.S.length : Int)) (writeD d (atI m n) b) ho1 (by omega) (by omega)
 have hcx := writeD_C d (atI m n) b
 rw [writeD_S] at hsx
 have hsd : spareR m b 20 (2 * half (d.S.length : Int)) (writeD d (atI m n) b) = spX d m n b := rfl
 rw [hsd] at hsx
 obtain ⟨⟨to, e3, d2⟩, h3⟩ : ∃ x, spX d m n b = x := ⟨_, rfl⟩
 rw [h3] at hsx hsd
 rw [h3] at HSR
 obtain ⟨s1, s2, s3, s4, s5, -⟩ := hsx
 have hto : (Lit.int .i64 to).wf = true := wf_small s4 (by show to ≤ _;have h6 : to ≤ 2 * half (d.S.length : Int) + (20 : Nat) := s5;omega)
 have hto0 : 0 ≤ to ∧ to ≤ 5000 := ⟨s4, by have h6 : to ≤ 2 * half (d.S.length : Int) + (20 : Nat) := s5;omega⟩
 have h4o := flushD_ok s1
 have h4s : (flushD d2).S.length = d.S.length := (flushD_S d2).trans s2
 have h4c : (flushD d2).C.length ≤ 2000 := Nat.le_trans (flushD_C d2) (by have h6 : d2.C.length ≤ (writeD d (atI m n) b).C.length + 20 := s3;omega)
 have HX1 : Jq7 (writeE d (atI m n) ≠ 2 → (E0, D0, M0) = (writeE d (atI m n), writeD d (atI m n) b, m)) := jq7 (fun h => hX.symm.trans (wrX_1 h1 rfl h))
 have HX2 : Jq7 (writeE d (atI m n) = 2 → e3 ≠ 0 → (E0, D0, M0) = (e3, d2, m)) := jq7 (fun h k => hX.symm.trans (wrX_2 h1 rfl h hsd k))
 have HX3 : Jq7 (writeE d (atI m n) = 2 → e3 = 0 → plc m n < 0 → L = 20 → (E0, D0, M0) = (17, d2, m)) := jq7 (fun h k k2 k3 => hX.symm.trans (wrX_3 h1 rfl h hsd k ⟨k2, hL.trans k3⟩))
 have HX4 : Jq7 (writeE d (atI m n) = 2 → e3 = 0 → ¬ (plc m n < 0 ∧ L = 20) → flushE d2 ≠ 0 → (E0, D0, M0) = (flushE d2, flushD d2, m)) := jq7 (fun h k k2 k4 => hX.symm.trans (wrX_4 h1 rfl h hsd k (by rw [hL];exact k2) k4))
 have HX5 : Jq7 (writeE d (atI m n) = 2 → e3 = 0 → ¬ (plc m n < 0 ∧ L = 20) → flushE d2 = 0 → (keepX (flushD d2) (nextM m n to)).1 ≠ 0 → (E0, D0, M0) = ((keepX (flushD d2) (nextM m n to)).1, (keepX (flushD d2) (nextM m n to)).2, m)) := jq7 (fun h k k2 k4 k5 => hX.symm.trans (wrX_5 h1 rfl h hsd k (by rw [hL];exact k2) k4 k5))
 have HX6 : Jq7 (writeE d (atI m n) = 2 → e3 = 0 → ¬ (plc m n < 0 ∧ L = 20) → flushE d2 = 0 → (keepX (flushD d2) (nextM m n to)).1 = 0 → (E0, D0, M0) = (0, (keepX (flushD d2) (nextM m n to)).2, nextM m n to)) := jq7 (fun h k k2 k4 k5 => hX.symm.trans (wrX_6 h1 rfl h hsd k (by rw [hL];exact k2) k4 k5))
 have HFL : Jq7 (∀ W s1 n1 c1 k1, DAt W p d2 s1 n1 c1 k1 → Calls Tryz.prog 18 #[.pointer (some ⟨p, 0, none⟩)] W fun e w' => e = .returned (.int .i64 (flushE d2)) ∧ Now W w' p (flushD d2)) := jq7 (fun W s1' n1 c1 k1 h => DiskFlush.flush_calls p d2 s1' n1 c1 k1 W s1 h)
 have hg1w : (Lit.int .i64 (g + 1)).wf = true := wf_small (by omega) (by omega)
 have hmo := nextM_ok (m := m) (n := n) (to := to) hm hn hto (by rw [hg];exact hg1w)
 have HKE : Jq7 (∀ W s1 n1 c1 k1 a c, Sh W → DAt W p (flushD d2) s1 n1 c1 k1 → RV W (nextM m n to) a c → Calls Tryz.prog 63 #[.pointer (some ⟨p, 0, none⟩), .agg (rval (nextM m n to) a c)] W fun e w' => e = .returned (.int .i64 (keepX (flushD d2) (nextM m n to)).1) ∧ Now W w' p (keepX (flushD d2) (nextM m n to)).2) := jq7 (fun W s1 n1 c1 k1 a c hsh h hr => keep_calls p (flushD d2) s1 n1 c1 k1 (nextM m n to) a c W h4o h hmo hr hsh h4c (by rw [h4s];exact hS))
 have HDO := jq7 (keepX_ok (m := nextM m n to) h4o).1
 have HSH := jq7 hsh
 have HPL := jq7 (plc_cases m n)
 have HLL := jq7 hL
 have HGG := jq7 hg
 have HO1 := jq7 ho1
 have HNP : Jq7 (∀ k : Nat, plc m n = k → nextM m n to = ⟨m.gen + 1, m.ps.set k (n, to)⟩) := jq7 (fun k h => nextM_at to h)
 have HNQ : Jq7 (plc m n = -1 → nextM m n to = ⟨m.gen + 1, m.ps ++ [(n, to)]⟩) := jq7 (fun h => nextM_no to (by omega))
 clear hrr hok hv hR hrv hsh h1 hb hn hm hC hg hL hap hln haw hlo hS ho1 hcx hsd h3 s1 s2 s3 s4 s5 hto h4o h4s h4c hg1w hmo hX
 generalize hq : atI m n = q at *
 clear hq
 generalize he1 : writeE d q = e1 at *
 generalize hd1 : writeD d q b = d1 at *
 generalize he4 : flushE d2 = e4 at *
 generalize hd3 : flushD d2 = d3 at *
 generalize hkx : keepX d3 (nextM m n to) = kx at *
 generalize hpn : plc m n = pn at *
 obtain ⟨e5, d4⟩ := kx
 simp only at HX5 HX6 HKE HDO
 clear he1 hd1 he4 hd3 hkx hpn
 have q0 : w.cell? ⟨r, 0, none⟩ = some (.int .i64 g) := Bk.cell HR.o 0
 have q1 : w.cell? ⟨r, 1, none⟩ = some (.slice a L c) := Bk.cell HR.o 1
 go_enter Tryz.func31, Tryz.ntmps31
 go_wp2_with (first | ((with_reducible show wkq (.load 28 _) _);refine lr 28 r (RC g (.slice a L c)) HR1.o (HIN.o _ _) ?_) | (go_at_call 58;(with_reducible refine (HAS.o _ HF1.o).mono ?_);rintro e w2 ⟨rfl, hf2⟩;have HF2 := fq0 HF1 hf2;have HB2 := kq0 hf2 HB1;have HR2 := kq0 hf2 HR1;clear hf2))
 refine wp_region_noPanic ?_
 refine wp_region_held_drew (S := (fun W : World => Bk W w.heap.size (b.map B).toArray 36 ∧ Bk W r (RC g (.slice a L c)) 28)) (by kernel_rfl) (⟨HB2.o, HR2.o⟩) (fun hL0 => ?_)
 refine tk0 (i := 0) (v := .pointer (some ⟨p, 0, none⟩)) rfl hL0 ?_
 refine tk0 (i := 1) (v := .pointer (some ⟨r, 0, none⟩)) rfl hL0 ?_
 simp only [Act.put,zA,zB,zC,zD,zE,zF]
 refine tk0 (i := 2) (v := .pointer (some ⟨r, 0, none⟩)) rfl hL0 ?_
 refine tk (i := 3) (v := .agg (RC g (.slice a L c))) rfl (yields_row (by kernel_rfl) 28 _ rfl (r) rfl 28 (RC g (.slice a L c)) (0, 0) _ (fun W h => h.2) Tryz.underlying28 rfl (HIN.o _ _)) hL0 ?_
 simp only [Act.put,zA,zB,zC,zD,zE,zF]
 refine tk0 (i := 4) (v := .int .i64 n) rfl hL0 ?_
 refine tk (i := 6) (v := .agg (b.map B).toArray) rfl (yields_row (by kernel_rfl) 36 _ rfl (w.heap.size) rfl 36 (b.map B).toArray (0, 0) _ (fun W h => h.1) Tryz.underlying36 rfl HIB.o) hL0 ?_
 simp only [Act.put,zA,zB,zC,zD,zE,zF]
 change wpAnyH _ _ _ _ _ 3 #[true, true, true, true, true, false, true, false, false] _ _
 refine rd1 5 rfl fun K hK => ?_
 simp only [zA, zB, zC]
 go_wp2_with fail
 refine (HAT.o _ (HRV.o.keep (Fr.drew HF2.o))).mono ?_
 rintro e wx0 ⟨rfl, hfx0⟩
 dsimp only
 have HF3 : Jq7 (Fr0 w wx0) := jq7 ((Fr.drew HF2.o).then0 hfx0)
 refine hK.out _ _ (⟨hfx0.keep (hL0).1 (fun h => h), hfx0.keep (hL0).2 (fun h => h)⟩) (fun hL1 => ?_)
 clear hK K hL0
 change wpAnyH _ _ _ _ _ 2 #[true, true, true, true, true, true, true, false, false] _ _
 refine rd1 7 rfl fun K hK => ?_
 simp only [zA, zB, zC]
 go_wp2_with fail
 refine (HWR.o _ (HV.o.keep HF3.o)).mono ?_
 rintro e wx1 ⟨rfl, ⟨s4, n4, c4, m4, hv4⟩, hfx1⟩
 dsimp only
 have HV4 := jq7 hv4
 have HRV4 : Jq7 (RV wx1 m a c) := jq7 (RV.past (HRV.o.keep HF3.o) hfx1 (HV.o.keep HF3.o).blk)
 have HF4 : Jq7 (Fr (fun i => i = p) w wx1) := jq7 ((HF3.o.weaken (fun _ _ h => h.elim)).trans hfx1)
 have HW4 : Jq7 (wx1 = wx1) := jq7 rfl
 clear hv4
 refine hK.out _ _ (⟨hfx1.keep (hL1).1 (by omega), hfx1.keep (hL1).2 hrp⟩) (fun hL2 => ?_)
 clear hK K hL1
 refine tk0 (i := 8) (v := .int .i64 e1) rfl hL2 ?_
 simp only [Act.put,zA,zB,zC,zD,zE,zF]
 change wpAnyH _ _ _ _ _ 0 #[true, true, true, true, true, true, true, true, true] _ _
 refine wpAnyH_done (by kernel_rfl) ?_ _
 refine NoPanic.normal ?_
 have HEND := jq7 hL2
 clear hL2
 by_cases k2 : e1 = 2
 case neg =>
  have be1 : (e1 != 2) = true := by simpa using k2
  go_wp2
  go_ret
  obtain ⟨rfl, rfl, rfl⟩ := wr_parts (HX1.o k2)
  exact ⟨rfl, ⟨_, _, _, _, HV4.o⟩, ⟨a, c, by rw [HRR.o];exact HEND.o.2, HRV4.o⟩, HF4.o.weaken (fun _ _ h => .inl h)⟩
 subst k2
 go_wp2
 generalize wx1 = w4 at *
 have HE4 := HEND
 clear HEND
 refine wp_region_noPanic ?_
 refine wp_region_held_drew (S := (fun W : World => Bk W w.heap.size (b.map B).toArray 36 ∧ Bk W r (RC g (.slice a L c)) 28)) (by kernel_rfl) (⟨HE4.o.1, HE4.o.2⟩) (fun hL0 => ?_)
 refine tk0 (i := 0) (v := .pointer (some ⟨p, 0, none⟩)) rfl hL0 ?_
 refine tk0 (i := 1) (v := .pointer (some ⟨r, 0, none⟩)) rfl hL0 ?_
 simp only [Act.put,zA,zB,zC,zD,zE,zF]
 refine tk0 (i := 2) (v := .pointer (some ⟨r, 0, none⟩)) rfl hL0 ?_
 refine tk (i := 3) (v := .agg (RC g (.slice a L c))) rfl (yields_row (by kernel_rfl) 28 _ rfl (r) rfl 28 (RC g (.slice a L c)) (0, 0) _ (fun W h => h.2) Tryz.underlying28 rfl (HIN.o _ _)) hL0 ?_
 simp only [Act.put,zA,zB,zC,zD,zE,zF]
 refine tk (i := 4) (v := .agg (b.map B).toArray) rfl (yields_row (by kernel_rfl) 36 _ rfl (w.heap.size) rfl 36 (b.map B).toArray (0, 0) _ (fun W h => h.1) Tryz.underlying36 rfl HIB.o) hL0 ?_
 simp only [Act.put,zA,zB,zC,zD,zE,zF]
 change wpAnyH _ _ _ _ _ 6 #[true, true, true, true, true, false, false, false, false, false, false] _ _
 refine rd1 5 rfl fun K hK => ?_
 simp only [zA, zB, zC]
 go_wp2_with fail
 refine (HSR.o _ _ _ _ _ (HV4.o.keep (Fr.drew (Fr.refl _ _))) (HRV4.o.keep (Fr.drew (Fr.refl _ _)))).mono ?_
 rintro e wx0 ⟨rfl, ⟨s5, n5, c5, m5, hv5⟩, hfx0⟩
 dsimp only
 have HV5 := jq7 hv5
 have HRV5 : Jq7 (RV wx0 m a c) := jq7 (RV.past (HRV4.o.keep (Fr.drew (Fr.refl _ _))) hfx0 (HV4.o.keep (Fr.drew (Fr.refl _ _))).blk)
 have HF5 : Jq7 (Fr (fun i => i = p) w wx0) := jq7 ((Fr.drew HF4.o).trans hfx0)
 clear hv5
 refine hK.out _ _ (⟨hfx0.keep (hL0).1 (by omega), hfx0.keep (hL0).2 hrp⟩) (fun hL1 => ?_)
 clear hK K hL0
 refine tk0 (i := 6) (v := .tuple #[.int .i64 to, .int .i64 e3]) rfl hL1 ?_
 refine tk (i := 7) (v := .int .i64 to) rfl (Or.inl ⟨by kernel_rfl, fun w hSw => by go_simp⟩) hL1 ?_
 simp only [Act.put,zA,zB,zC,zD,zE,zF]
 refine tk (i := 8) (v := .int .i64 e3) rfl (Or.inl ⟨by kernel_rfl, fun w hSw => by go_simp⟩) hL1 ?_
 refine tk0 (i := 9) (v := .int .i64 to) rfl hL1 ?_
 simp only [Act.put,zA,zB,zC,zD,zE,zF]
 refine tk0 (i := 10) (v := .int .i64 e3) rfl hL1 ?_
 simp only [Act.put,zA,zB,zC,zD,zE,zF]
 change wpAnyH _ _ _ _ _ 0 #[true, true, true, true, true, true, true, true, true, true, true] _ _
 refine wpAnyH_done (by kernel_rfl) ?_ _
 refine NoPanic.normal ?_
 have HEND := jq7 hL1
 clear hL1
 by_cases k3 : e3 = 0
 case neg =>
  have be3 : (e3 != 0) = true := by simpa using k3
  go_wp2
  go_ret
  obtain ⟨rfl, rfl, rfl⟩ := wr_parts (HX2.o (by trivial) k3)
  exact ⟨rfl, ⟨_, _, _, _, HV5.o⟩, ⟨a, c, by rw [HRR.o];exact HEND.o.2, HRV5.o⟩, HF5.o.weaken (fun _ _ h => .inl h)⟩
 subst k3
 go_wp2
 generalize wx0 = w5 at *
 have HE5 := HEND
 clear HEND HV4 HF4 HE4 HRV4
 have HF50 : Jq7 (Fr0 w5 w5.drew) := jq7 (Fr.drew (Fr.refl _ _))
 have c5a : Jq7 (∀ W, Bk W r (RC g (.slice a L c)) 28 → W.cell? ⟨r, 0, none⟩ = some (.int .i64 g)) := jq7 (fun W h => Bk.cell h 0)
 have c5b : Jq7 (∀ W, Bk W r (RC g (.slice a L c)) 28 → W.cell? ⟨r, 1, none⟩ = some (.slice a L c)) := jq7 (fun W h => Bk.cell h 1)
 have HCL : Jq7 (∀ W, Fr0 w5 W → Calls Tryz.prog 61 #[(.slice a L c)] W fun e w' => ∃ a' c', e = .returned (.slice a' L c') ∧ RowP w' W.heap.size (.slice a' L c') m.ps ∧ Fr0 W w') := jq7 (fun W f => clone_calls m.ps a L c W HLL.o (HRV5.o.rd.keep f) (by omega))
 refine wp_region_noPanic ?_
 refine wp_region_held_drew (S := (fun W : World => Bk W w.heap.size (b.map B).toArray 36 ∧ Bk W r (RC g (.slice a L c)) 28 ∧ Fr0 w5 W)) (by kernel_rfl) (⟨HE5.o.1, HE5.o.2, HF50.o⟩) (fun hL0 => ?_)
 generalize w5.drew = wd at *
 refine tk0 (i := 0) (v := .pointer (some ⟨r, 0, none⟩)) rfl hL0 ?_
 refine tk0 (i := 1) (v := .pointer (some ⟨r, 0, none⟩)) rfl hL0 ?_
 simp only [Act.put,zA,zB,zC,zD,zE,zF]
 refine tk0 (i := 2) (v := .pointer (some ⟨r, 0, none⟩)) rfl hL0 ?_
 refine tk (i := 3) (v := .int .i64 g) rfl (Or.inl ⟨by kernel_rfl, fun w hSw => by have hcl := (fun _ h => c5a.o _ h.2.1) w hSw;go_simp⟩) hL0 ?_
 simp only [Act.put,zA,zB,zC,zD,zE,zF]
 refine tk (i := 4) (v := .int .i64 (g + 1)) rfl (Or.inl ⟨by kernel_rfl, fun w hSw => by go_simp;rw [IntKind.wrap_i64];omega⟩) hL0 ?_
 refine tk0 (i := 5) (v := .pointer (some ⟨r, 0, none⟩)) rfl hL0 ?_
 simp only [Act.put,zA,zB,zC,zD,zE,zF]
 refine tk0 (i := 6) (v := .pointer (some ⟨r, 0, none⟩)) rfl hL0 ?_
 refine tk0 (i := 7) (v := .pointer (some ⟨r, 1, none⟩)) rfl hL0 ?_
 simp only [Act.put,zA,zB,zC,zD,zE,zF]
 refine tk (i := 8) (v := (.slice a L c)) rfl (Or.inl ⟨by kernel_rfl, fun w hSw => by have hcl := (fun _ h => c5b.o _ h.2.1) w hSw;go_simp⟩) hL0 ?_
 simp only [Act.put,zA,zB,zC,zD,zE,zF]
 change wpAnyH _ _ _ _ _ 4 #[true, true, true, true, true, true, true, true, true, false, false, false, false] _ _
 refine wpAnyH_ready (rs := [9, 11]) (by kernel_rfl) (by simp) ?_
 refine AllReadyH.cons rfl (fun K hK => ?_) (AllReadyH.cons rfl (fun K hK => ?_) (AllReadyH.nil))
 ·simp only [zA, zB, zC]
  refine (if_pos (by kernel_rfl)).mpr ?_
  have hk0 := hL0
  go_wp2_with fail
  refine (HCL.o _ (hL0).2.2).mono ?_
  rintro e wq ⟨a1, c1, rfl, hrow, hf9⟩
  dsimp only
  refine hK.out _ _ (⟨hf9.keep (hL0).1 (fun h => h), hf9.keep (hL0).2.1 (fun h => h), (hL0).2.2.then0 hf9⟩) (fun hL1 => ?_)
  clear hK K hL0
  have HRW : Jq7 (RowP wq w5.heap.size (.slice a1 L c1) m.ps) := jq7 (Row.less hrow hk0.2.2.size)
  clear hrow hk0 hf9
  refine tk (i := 10) (v := .agg (RC (g + 1) (.slice a1 L c1))) rfl (Or.inl ⟨by kernel_rfl, fun w hSw => GApp.run_build_op 28 _ rfl [(0, .int .i64 (g + 1)), (1, (.slice a1 L c1))] (by simp [Act.eval, Act.put]) _ (built_rv _ _ _ _)⟩) hL1 ?_
  simp only [Act.put,zA,zB,zC,zD,zE,zF]
  change wpAnyH _ _ _ _ _ 2 #[true, true, true, true, true, true, true, true, true, true, true, false, false] _ _
  refine rd1 11 rfl fun K hK => ?_
  simp only [zA, zB, zC]
  have hk0 := hL1
  go_wp2_with fail
  refine hK.out _ _ (⟨Bk.alloc (hL1).1 _, Bk.alloc (hL1).2.1 _, Fr.alloc (hL1).2.2 _⟩) (fun hL2 => ?_)
  clear hK K hL1
  have HGA : Jq7 (Bk (wq.alloc (.cells RZ 28)) wq.heap.size RZ 28) := jq7 (Bk.new _ _)
  have HGE : Jq7 (w5.heap.size ≤ wq.heap.size) := jq7 (hk0.2.2.size)
  clear hk0
  have HNX : Jq7 (∀ q, ((.slice a1 L c1) : Value).ownBlock = some q → q ≠ wq.heap.size) := jq7 (fun q e => by have h1 := (HRW.o.blk q e).2;omega)
  replace HRW : Jq7 (RowP (wq.alloc (.cells RZ 28)) w5.heap.size (.slice a1 L c1) m.ps) := jq7 (HRW.o.keep0 (Fr.alloc (Fr.refl _ _) _))
  generalize (wq.alloc (.cells RZ 28)) = wa at *
  generalize wq.heap.size = gx at *
  change wpAnyH _ _ _ _ _ 1 #[true, true, true, true, true, true, true, true, true, true, true, true, false] _ _
  refine rd1 12 rfl fun K hK => ?_
  simp only [zA, zB, zC]
  have hge := HGE.o
  have h5r := Bk.lt HE5.o.2
  have h5b := Bk.lt HE5.o.1
  refine wp_store_row 28 _ _ rfl gx (RC (g + 1) (.slice a1 L c1)) rfl rfl 28 RZ HGA.o (HIN.o _ _) rfl (RC_all _ _ _ _) ?_
  refine hK.out _ _ (⟨ArrKit.Bk.rowOther (hL2).1 _ (by omega), ArrKit.Bk.rowOther (hL2).2.1 _ (by omega), ArrKit.Fr.row (hL2).2.2 _ _ (.inl (by omega))⟩) (fun hL3 => ?_)
  clear hK K hL2
  have HGX6 : Jq7 (Bk (wa.setRow gx (RC (g + 1) (.slice a1 L c1))) gx (RC (g + 1) (.slice a1 L c1)) 28) := jq7 (ArrKit.Bk.row HGA.o _)
  have HRW6 : Jq7 (RowP (wa.setRow gx (RC (g + 1) (.slice a1 L c1))) w5.heap.size (.slice a1 L c1) m.ps) := jq7 (HRW.o.keep (Fr.row1 _ gx _) (fun q e => HNX.o q e))
  generalize wa.setRow gx (RC (g + 1) (.slice a1 L c1)) = w6 at *
  change wpAnyH _ _ _ _ _ 0 #[true, true, true, true, true, true, true, true, true, true, true, true, true] _ _
  refine wpAnyH_done (by kernel_rfl) ?_ _
  refine NoPanic.normal ?_
  have HEND := jq7 hL3
  clear hL3
  have hgxp : gx ≠ p := by have := HGE.o;have := Bk.lt HV5.o.blk;omega
  have h5w : w.heap.size < w5.heap.size := Bk.lt HE5.o.1
  have HR5L : Jq7 (r < w5.heap.size) := jq7 (Bk.lt HE5.o.2)
  have HP5L : Jq7 (p < w5.heap.size) := jq7 (Bk.lt HV5.o.blk)
  have HSN : Jq7 (¬ 1 = p ∧ ¬ 0 = p) := jq7 (by have := HSH.o.ne HV.o.blk (by show (4 : Nat) ≠ 8;decide) (by show (4 : Nat) ≠ 64;decide);exact ⟨fun e => this.1 e.symm, fun e => this.2 e.symm⟩)
  rcases HPL.o with ⟨hp, -⟩ | ⟨k, hk, hp, hkn, -⟩
  ·obtain ⟨i1, hy0, hz0, hz1, hz2⟩ := info_parts infoPr
   have HJ : Jq7 (Tryz.prog.info? 70 = some i1 ∧ i1.zero = some (.agg PZ2) ∧ i1.size = 2 ∧ i1.bytes = 16) := jq7 ⟨hy0, hz0, hz1, hz2⟩
   have HLM : Jq7 (m.ps.length ≤ 20) := jq7 (by rw [HLL.o];exact h20)
   have HNM := jq7 (HNQ.o hp)
   clear hy0 hz0 hz1 hz2
   have HNL : Jq7 ((m.ps ++ [(n, to)]).length = (L + 1)) := jq7 (by simp [HLL.o])
   have HRN : Jq7 (∀ a c, rval (nextM m n to) a c = RC (g + 1) (.slice a (L + 1) c)) := jq7 (fun a c => by
    rw [HNM.o]
    show RC (m.gen + 1) (.slice a (m.ps ++ [(n, to)]).length c) = _
    rw [HGG.o, HNL.o])
   have HRW0 : Jq7 (∀ W base a c, RowP W base (.slice a (L + 1) c) (m.ps ++ [(n, to)]) → RV W (nextM m n to) a c) := jq7 (fun W base a c h => by rw [HNM.o];exact (Row.rv (g := 0) (m := (⟨m.gen + 1, m.ps ++ [(n, to)]⟩ : Rm)) h).2)
   have HKX : Jq7 (∀ W s1 n1 c1 k1 a c, Sh W → DAt W p d3 s1 n1 c1 k1 → RV W (nextM m n to) a c → Calls Tryz.prog 63 #[.pointer (some ⟨p, 0, none⟩), .agg (RC (g + 1) (.slice a (L + 1) c))] W fun e w' => e = .returned (.int .i64 e5) ∧ Now W w' p d4) := jq7 (fun W s1 n1 c1 k1 a c h1 h2 h3 => by have := HKE.o W s1 n1 c1 k1 a c h1 h2 h3;rwa [HRN.o] at this)
   subst hp
   go_wp2_with (first | ((with_reducible show wkq (.load 28 _) _);refine lr 28 r (RC g (.slice a L c)) HEND.o.2.1 (HIN.o _ _) ?_) | (go_at_call 62;(with_reducible refine (HPC.o _ (HRV5.o.keep HEND.o.2.2)).mono ?_);rintro e w7 ⟨rfl, hf7⟩;have HGX7 := kq0 hf7 HGX6;have HRW7 := jq7 (HRW6.o.keep0 hf7);have HF57 := jq7 (HEND.o.2.2.then0 hf7);have HR7 := jq7 (hf7.keep HEND.o.2.1 (fun h => h));have gx1 : w7.cell? ⟨gx, 1, none⟩ = some (.slice a1 L c1) := Bk.cell HGX7.o 1;clear hf7) | ((with_reducible show wkq (.build 70 _) _);refine build_ev rfl 70 _ rfl [(0, .int .i64 n), (1, .int .i64 to)] (by simp [Act.eval, Act.put]) (PR (n, to)).toArray (built_pr _ _) ?_) | ((with_reducible show wkq (.buildSlice 26 1 _) _);refine wpList_plain rfl fun K hK => ?_;refine GApp.wp_buildSlice_one 26 _ rfl 70 i1 _ 2 Tryz.underlying26 HJ.o.1 HJ.o.2.1 HJ.o.2.2.1 (by decide) (by decide) (PR (n, to)).toArray rfl rfl ?_;refine hK _ _ ?_) | (at_builtin;refine wpList_plain rfl fun K hK => ?_;obtain ⟨v8, w8, hr8, hw8, hf8, hn8⟩ := Row.append1 (P := Tryz.prog) (f := PR) (k := 2) (e := 70) (w7.alloc (.cells (PR (n, to)).toArray 70)) 26 26 i1 _ 16 w5.heap.size Tryz.underlying26 HJ.o.1 HJ.o.2.1 HJ.o.2.2.1 HJ.o.2.2.2 rfl (by decide) (.slice a1 L c1) m.ps (HRW7.o.keep0 (Fr.alloc (Fr.refl _ _) _)) (by have h1 := HF57.o.size;simp;omega) (fun x _ => PR_len x) w7.heap.size 1 (n, to) rfl (PR_one _) (Bk.new w7 _) (by have h1 := HLM.o;omega) (by have h1 := HLM.o;omega);obtain ⟨a8, c8, hv8, -⟩ := hw8.form;rw [HNL.o] at hv8;subst hv8;refine GApp.wp_append_run (.tmp 67) (.tmp 71) 26 (by rfl) _ _ _ (by rfl) (by rfl) hr8 ?_;refine hK _ _ ?_;have HGX8 := jq7 (hf8.keep (Bk.alloc HGX7.o _) (fun e => HNX.o _ e rfl));have HR8 := jq7 (hf8.keep (Bk.alloc HR7.o _) (fun e => by have h1 := (HRW7.o.blk _ e).1;have h2 := HR5L.o;omega));have HF58 : Jq7 (Fr0 w5 w8) := jq7 ((Fr.alloc HF57.o _).then hf8 (fun i hi e => by have h1 := (HRW7.o.blk _ e).1;omega));have HNX8 : Jq7 (∀ q, ((.slice a8 (L + 1) c8) : Value).ownBlock = some q → q ≠ gx) := jq7 (fun q e => (hn8 q e).elim (fun h => HNX.o q h) (fun h => by have h2 := Bk.lt HGX7.o;simp at h;omega));have HW8 := jq7 hw8;have gx8 : w8.cell? ⟨gx, 1, none⟩ = some (.slice a1 L c1) := Bk.cell HGX8.o 1;have fx8 := Bk.free HGX8.o 1;have HGX9 : Jq7 (Bk (w8.setCell ⟨gx, 1, none⟩ (.slice a8 (L + 1) c8)) gx (RC (g + 1) (.slice a8 (L + 1) c8)) 28) := jq7 (Bk.set HGX8.o 1 (.slice a8 (L + 1) c8));have HR9 : Jq7 (Bk (w8.setCell ⟨gx, 1, none⟩ (.slice a8 (L + 1) c8)) r (RC g (.slice a L c)) 28) := jq7 (Bk.setOther HR8.o _ _ (by show r ≠ gx;have h1 := HGE.o;have h2 := HR5L.o;omega));have HW9 : Jq7 (RowP (w8.setCell ⟨gx, 1, none⟩ (.slice a8 (L + 1) c8)) w5.heap.size (.slice a8 (L + 1) c8) (m.ps ++ [(n, to)])) := jq7 (HW8.o.keep (Fr.set1 w8 gx 1 (.slice a8 (L + 1) c8)) (fun q e => HNX8.o q e));have HF59 : Jq7 (Fr0 w5 (w8.setCell ⟨gx, 1, none⟩ (.slice a8 (L + 1) c8))) := jq7 (Fr.set HF58.o _ _ (.inl (by show w5.heap.size ≤ gx;exact HGE.o)));clear hr8 hw8 hf8 hn8) | (go_at_call 18;(with_reducible refine (HFL.o _ _ _ _ _ (HV5.o.keep HF59.o)).mono ?_);rintro e w10 ⟨rfl, ⟨sA, nA, cA, mA, hvA⟩, hf10⟩;have HV10 := jq7 hvA;have HGX10 := jq7 (hf10.keep HGX9.o hgxp);have HR10 := jq7 (hf10.keep HR9.o hrp);have HW10 : Jq7 (RowP w10 w5.heap.size (.slice a8 (L + 1) c8) (m.ps ++ [(n, to)])) := jq7 (HW9.o.keep hf10 (fun q e => by have h1 := (HW9.o.blk q e).1;have h2 := HP5L.o;omega));have HRV10 : Jq7 (RV w10 m a c) := jq7 (RV.past (HRV5.o.keep HF59.o) hf10 (HV5.o.keep HF59.o).blk);have HF10 : Jq7 (Fr (fun i => i = p) w w10) := jq7 ((HF5.o.trans (HF59.o.weaken (fun _ _ h => h.elim))).trans hf10);clear hvA hf10) | (go_at_call 63;(with_reducible refine (HKX.o _ _ _ _ _ a8 c8 (HSH.o.keep HF10.o HSN.o.1 HSN.o.2) HV10.o (HRW0.o _ _ _ _ HW10.o)).mono ?_);rintro e w11 ⟨rfl, ⟨sB, nB, cB, mB, hvB⟩, hf11⟩;have HV11 := jq7 hvB;have HGX11 := jq7 (hf11.keep HGX10.o hgxp);have HR11 := jq7 (hf11.keep HR10.o hrp);have HW11 : Jq7 (RowP w11 w5.heap.size (.slice a8 (L + 1) c8) (m.ps ++ [(n, to)])) := jq7 (HW10.o.keep hf11 (fun q e => by have h1 := (HW10.o.blk q e).1;have h2 := HP5L.o;omega));have HRV11 : Jq7 (RV w11 m a c) := jq7 (RV.past HRV10.o hf11 HV10.o.blk);have HF11 : Jq7 (Fr (fun i => i = p) w w11) := jq7 (HF10.o.trans hf11);clear hvB hf11) | ((with_reducible show wkq (.load 28 _) _);refine lr 28 gx (RC (g + 1) (.slice a8 (L + 1) c8)) HGX11.o (HIN.o _ _) ?_) | ((with_reducible show wkq (.load 28 _) _);refine lr 28 gx (RC (g + 1) (.slice a8 (L + 1) c8)) HGX10.o (HIN.o _ _) ?_) | ((with_reducible show wkq (.store 28 _ _) _);refine wpList_store_row rfl 28 _ _ rfl r (RC (g + 1) (.slice a8 (L + 1) c8)) rfl rfl 28 (RC g (.slice a L c)) HR11.o (HIN.o _ _) rfl (RC_all _ _ _ _) ?_))
   all_goals go_ret
   all_goals (try simp only [bne_iff_ne, ne_eq, beq_iff_eq, bne_eq_false_iff_eq, beq_eq_false_iff_ne] at *)
   all_goals first | (obtain ⟨rfl, rfl, rfl⟩ := wr_parts (HX4.o (by trivial) (by trivial) (by omega) (by omega));exact ⟨rfl, ⟨_, _, _, _, HV10.o⟩, ⟨a, c, by rw [HRR.o];exact HR10.o, HRV10.o⟩, HF10.o.weaken (fun _ _ h => .inl h)⟩) | (obtain ⟨rfl, rfl, rfl⟩ := wr_parts (HX5.o (by trivial) (by trivial) (by omega) (by omega) (by omega));exact ⟨rfl, ⟨_, _, _, _, HV11.o⟩, ⟨a, c, by rw [HRR.o];exact HR11.o, HRV11.o⟩, HF11.o.weaken (fun _ _ h => .inl h)⟩) | (obtain ⟨rfl, rfl, rfl⟩ := wr_parts (HX6.o (by trivial) (by trivial) (by omega) (by omega) (by omega));have h12 : Fr (fun i => i = r) w11 (w11.setRow r (RC (g + 1) (.slice a8 (L + 1) c8))) := Fr.row1 _ r _;exact ⟨rfl, ⟨_, _, _, _, DAt_past HV11.o HDO.o h12 HR11.o (rc_no _ _ _ _) (fun e => hrp e.symm)⟩, ⟨a8, c8, by rw [HRN.o];exact ArrKit.Bk.row HR11.o _, HRW0.o _ _ _ _ (HW11.o.keep h12 (fun q e => by have h1 := (HW11.o.blk q e).1;have h2 := HR5L.o;omega))⟩, Fr.then (HF11.o.weaken (fun _ _ h => .inl h)) h12 (fun i _ e => .inr e)⟩) | (obtain ⟨rfl, rfl, rfl⟩ := wr_parts (HX3.o (by trivial) (by trivial) (by omega) (by omega));exact ⟨rfl, ⟨_, _, _, _, HV5.o.keep HF57.o⟩, ⟨a, c, by rw [HRR.o];exact HR7.o, HRV5.o.keep HF57.o⟩, (HF5.o.then0 HF57.o).weaken (fun _ _ h => .inl h)⟩)
  ·obtain ⟨g1, c2, cur, ev, hb1, ho1⟩ : ∃ g1 c2 cur, (.slice a1 L c1 : Value) = .slice (some ⟨g1, 0, none⟩) m.ps.length c2 ∧ w5.heap.size ≤ g1 ∧ OwnP w6 g1 c2 cur m.ps := by
    rcases HRW6.o with ⟨-, e⟩ | h
    ·rw [e] at hk;cases hk
    ·exact h
   injection ev with ev1 ev2 ev3
   subst ev1 ev3
   have HKN : Jq7 (∃ h : k < m.ps.length, m.ps[k].1 = n) := jq7 ⟨hk, hkn⟩
   have hkL : k < L := by rw [← HLL.o];exact hk
   have HG1 : Jq7 (w5.heap.size ≤ g1 ∧ g1 ≠ gx) := jq7 ⟨hb1, HNX.o g1 rfl⟩
   have HO6 := jq7 ho1
   obtain ⟨k2, hk2⟩ : ∃ k2, cur[k * 2 + 1]? = some (.int .i64 k2) := ⟨_, ho1.here k hk 1 _ rfl⟩
   have HK2 := jq7 hk2
   have HNM := jq7 (HNP.o k hp)
   clear hb1 ho1 ev2 hk2 hk hkn
   have HNL : Jq7 ((m.ps.set k (n, to)).length = L) := jq7 (by simp [HLL.o])
   have HRN : Jq7 (∀ a c, rval (nextM m n to) a c = RC (g + 1) (.slice a L c)) := jq7 (fun a c => by
    rw [HNM.o]
    show RC (m.gen + 1) (.slice a (m.ps.set k (n, to)).length c) = _
    rw [HGG.o, HNL.o])
   have HRW0 : Jq7 (∀ W base a c, RowP W base (.slice a L c) (m.ps.set k (n, to)) → RV W (nextM m n to) a c) := jq7 (fun W base a c h => by rw [HNM.o];exact (Row.rv (g := 0) (m := (⟨m.gen + 1, m.ps.set k (n, to)⟩ : Rm)) h).2)
   have HKX : Jq7 (∀ W s1 n1 c1 k1 a c, Sh W → DAt W p d3 s1 n1 c1 k1 → RV W (nextM m n to) a c → Calls Tryz.prog 63 #[.pointer (some ⟨p, 0, none⟩), .agg (RC (g + 1) (.slice a L c))] W fun e w' => e = .returned (.int .i64 e5) ∧ Now W w' p d4) := jq7 (fun W s1 n1 c1 k1 a c h1 h2 h3 => by have := HKE.o W s1 n1 c1 k1 a c h1 h2 h3;rwa [HRN.o] at this)
   subst hp
   go_wp2_with (first | ((with_reducible show wkq (.load 28 _) _);refine lr 28 r (RC g (.slice a L c)) HEND.o.2.1 (HIN.o _ _) ?_) | (go_at_call 62;(with_reducible refine (HPC.o _ (HRV5.o.keep HEND.o.2.2)).mono ?_);rintro e w7 ⟨rfl, hf7⟩;have HGX7 := kq0 hf7 HGX6;have HRW7 := jq7 (HRW6.o.keep0 hf7);have HF57 := jq7 (HEND.o.2.2.then0 hf7);have HR7 := jq7 (hf7.keep HEND.o.2.1 (fun h => h));have gx1 : w7.cell? ⟨gx, 1, none⟩ = some (.slice (some ⟨g1, 0, none⟩) L c1) := Bk.cell HGX7.o 1;have HO7 := jq7 (OwnG.keep HO6.o hf7 (fun h => h));have g7 : w7.cell? ⟨g1, k * 2 + 1, none⟩ = some (.int .i64 k2) := (Bk.cell HO7.o.blk _).trans HK2.o;have fx7 := Bk.free HO7.o.blk (k * 2 + 1);have HO9 : Jq7 (OwnP (w7.setCell ⟨g1, k * 2 + 1, none⟩ (.int .i64 to)) g1 c1 _ (m.ps.set k (n, to))) := jq7 (own_to HO7.o HKN.o.1 HKN.o.2 to);have HW9 : Jq7 (RowP (w7.setCell ⟨g1, k * 2 + 1, none⟩ (.int .i64 to)) w5.heap.size (.slice (some ⟨g1, 0, none⟩) L c1) (m.ps.set k (n, to))) := jq7 (.inr ⟨g1, c1, _, by rw [HNL.o], HG1.o.1, HO9.o⟩);have HGX9 : Jq7 (Bk (w7.setCell ⟨g1, k * 2 + 1, none⟩ (.int .i64 to)) gx (RC (g + 1) (.slice (some ⟨g1, 0, none⟩) L c1)) 28) := jq7 (Bk.setOther HGX7.o _ _ (by show gx ≠ g1;exact fun e => HG1.o.2 e.symm));have HR9 : Jq7 (Bk (w7.setCell ⟨g1, k * 2 + 1, none⟩ (.int .i64 to)) r (RC g (.slice a L c)) 28) := jq7 (Bk.setOther HR7.o _ _ (by show r ≠ g1;have h1 := HG1.o.1;have h2 := HR5L.o;omega));have HF59 : Jq7 (Fr0 w5 (w7.setCell ⟨g1, k * 2 + 1, none⟩ (.int .i64 to))) := jq7 (Fr.set HF57.o _ _ (.inl (by show w5.heap.size ≤ g1;exact HG1.o.1)));clear hf7) | (go_at_call 18;(with_reducible refine (HFL.o _ _ _ _ _ (HV5.o.keep HF59.o)).mono ?_);rintro e w10 ⟨rfl, ⟨sA, nA, cA, mA, hvA⟩, hf10⟩;have HV10 := jq7 hvA;have HGX10 := jq7 (hf10.keep HGX9.o hgxp);have HR10 := jq7 (hf10.keep HR9.o hrp);have HW10 : Jq7 (RowP w10 w5.heap.size (.slice (some ⟨g1, 0, none⟩) L c1) (m.ps.set k (n, to))) := jq7 (HW9.o.keep hf10 (fun q e => by have h1 := (HW9.o.blk q e).1;have h2 := HP5L.o;omega));have HRV10 : Jq7 (RV w10 m a c) := jq7 (RV.past (HRV5.o.keep HF59.o) hf10 (HV5.o.keep HF59.o).blk);have HF10 : Jq7 (Fr (fun i => i = p) w w10) := jq7 ((HF5.o.trans (HF59.o.weaken (fun _ _ h => h.elim))).trans hf10);clear hvA hf10) | (go_at_call 63;(with_reducible refine (HKX.o _ _ _ _ _ (some ⟨g1, 0, none⟩) c1 (HSH.o.keep HF10.o HSN.o.1 HSN.o.2) HV10.o (HRW0.o _ _ _ _ HW10.o)).mono ?_);rintro e w11 ⟨rfl, ⟨sB, nB, cB, mB, hvB⟩, hf11⟩;have HV11 := jq7 hvB;have HGX11 := jq7 (hf11.keep HGX10.o hgxp);have HR11 := jq7 (hf11.keep HR10.o hrp);have HW11 : Jq7 (RowP w11 w5.heap.size (.slice (some ⟨g1, 0, none⟩) L c1) (m.ps.set k (n, to))) := jq7 (HW10.o.keep hf11 (fun q e => by have h1 := (HW10.o.blk q e).1;have h2 := HP5L.o;omega));have HRV11 : Jq7 (RV w11 m a c) := jq7 (RV.past HRV10.o hf11 HV10.o.blk);have HF11 : Jq7 (Fr (fun i => i = p) w w11) := jq7 (HF10.o.trans hf11);clear hvB hf11) | ((with_reducible show wkq (.load 28 _) _);refine lr 28 gx (RC (g + 1) (.slice (some ⟨g1, 0, none⟩) L c1)) HGX11.o (HIN.o _ _) ?_) | ((with_reducible show wkq (.load 28 _) _);refine lr 28 gx (RC (g + 1) (.slice (some ⟨g1, 0, none⟩) L c1)) HGX10.o (HIN.o _ _) ?_) | ((with_reducible show wkq (.store 28 _ _) _);refine wpList_store_row rfl 28 _ _ rfl r (RC (g + 1) (.slice (some ⟨g1, 0, none⟩) L c1)) rfl rfl 28 (RC g (.slice a L c)) HR11.o (HIN.o _ _) rfl (RC_all _ _ _ _) ?_))
   all_goals go_ret
   all_goals (try simp only [bne_iff_ne, ne_eq, beq_iff_eq, bne_eq_false_iff_eq, beq_eq_false_iff_ne] at *)
   all_goals first | (obtain ⟨rfl, rfl, rfl⟩ := wr_parts (HX4.o (by trivial) (by trivial) (by omega) (by omega));exact ⟨rfl, ⟨_, _, _, _, HV10.o⟩, ⟨a, c, by rw [HRR.o];exact HR10.o, HRV10.o⟩, HF10.o.weaken (fun _ _ h => .inl h)⟩) | (obtain ⟨rfl, rfl, rfl⟩ := wr_parts (HX5.o (by trivial) (by trivial) (by omega) (by omega) (by omega));exact ⟨rfl, ⟨_, _, _, _, HV11.o⟩, ⟨a, c, by rw [HRR.o];exact HR11.o, HRV11.o⟩, HF11.o.weaken (fun _ _ h => .inl h)⟩) | (obtain ⟨rfl, rfl, rfl⟩ := wr_parts (HX6.o (by trivial) (by trivial) (by omega) (by omega) (by omega));have h12 : Fr (fun i => i = r) w11 (w11.setRow r (RC (g + 1) (.slice (some ⟨g1, 0, none⟩) L c1))) := Fr.row1 _ r _;exact ⟨rfl, ⟨_, _, _, _, DAt_past HV11.o HDO.o h12 HR11.o (rc_no _ _ _ _) (fun e => hrp e.symm)⟩, ⟨(some ⟨g1, 0, none⟩), c1, by rw [HRN.o];exact ArrKit.Bk.row HR11.o _, HRW0.o _ _ _ _ (HW11.o.keep h12 (fun q e => by have h1 := (HW11.o.blk q e).1;have h2 := HR5L.o;omega))⟩, Fr.then (HF11.o.weaken (fun _ _ h => .inl h)) h12 (fun i _ e => .inr e)⟩)
 ·simp only [zA, zB, zC]
  refine (if_pos (by kernel_rfl)).mpr ?_
  have hk0 := hL0
  go_wp2_with fail
  refine hK.out _ _ (⟨Bk.alloc (hL0).1 _, Bk.alloc (hL0).2.1 _, Fr.alloc (hL0).2.2 _⟩) (fun hL1 => ?_)
  clear hK K hL0
  have HGA : Jq7 (Bk (wd.alloc (.cells RZ 28)) wd.heap.size RZ 28) := jq7 (Bk.new _ _)
  have HGE : Jq7 (w5.heap.size ≤ wd.heap.size) := jq7 (hk0.2.2.size)
  clear hk0
  generalize (wd.alloc (.cells RZ 28)) = wa at *
  generalize wd.heap.size = gx at *
  change wpAnyH _ _ _ _ _ 3 #[true, true, true, true, true, true, true, true, true, false, false, true, false] _ _
  refine rd1 9 rfl fun K hK => ?_
  simp only [zA, zB, zC]
  have hk0 := hL1
  go_wp2_with fail
  refine (HCL.o _ (hL1).2.2).mono ?_
  rintro e wq ⟨a1, c1, rfl, hrow, hf9⟩
  dsimp only
  refine hK.out _ _ (⟨hf9.keep (hL1).1 (fun h => h), hf9.keep (hL1).2.1 (fun h => h), (hL1).2.2.then0 hf9⟩) (fun hL2 => ?_)
  clear hK K hL1
  have HRW : Jq7 (RowP wq w5.heap.size (.slice a1 L c1) m.ps) := jq7 (Row.less hrow hk0.2.2.size)
  have HNX : Jq7 (∀ q, ((.slice a1 L c1) : Value).ownBlock = some q → q ≠ gx) := jq7 (fun q e => by have h1 := (hrow.blk q e).1;have h2 := Bk.lt HGA.o;omega)
  have HGA' := kq0 hf9 HGA
  clear HGA
  have HGA := HGA'
  clear HGA' hrow hk0 hf9
  refine tk (i := 10) (v := .agg (RC (g + 1) (.slice a1 L c1))) rfl (Or.inl ⟨by kernel_rfl, fun w hSw => GApp.run_build_op 28 _ rfl [(0, .int .i64 (g + 1)), (1, (.slice a1 L c1))] (by simp [Act.eval, Act.put]) _ (built_rv _ _ _ _)⟩) hL2 ?_
  simp only [Act.put,zA,zB,zC,zD,zE,zF]
  change wpAnyH _ _ _ _ _ 1 #[true, true, true, true, true, true, true, true, true, true, true, true, false] _ _
  refine rd1 12 rfl fun K hK => ?_
  simp only [zA, zB, zC]
  have hge := HGE.o
  have h5r := Bk.lt HE5.o.2
  have h5b := Bk.lt HE5.o.1
  refine wp_store_row 28 _ _ rfl gx (RC (g + 1) (.slice a1 L c1)) rfl rfl 28 RZ HGA.o (HIN.o _ _) rfl (RC_all _ _ _ _) ?_
  refine hK.out _ _ (⟨ArrKit.Bk.rowOther (hL2).1 _ (by omega), ArrKit.Bk.rowOther (hL2).2.1 _ (by omega), ArrKit.Fr.row (hL2).2.2 _ _ (.inl (by omega))⟩) (fun hL3 => ?_)
  clear hK K hL2
  have HGX6 : Jq7 (Bk (wq.setRow gx (RC (g + 1) (.slice a1 L c1))) gx (RC (g + 1) (.slice a1 L c1)) 28) := jq7 (ArrKit.Bk.row HGA.o _)
  have HRW6 : Jq7 (RowP (wq.setRow gx (RC (g + 1) (.slice a1 L c1))) w5.heap.size (.slice a1 L c1) m.ps) := jq7 (HRW.o.keep (Fr.row1 _ gx _) (fun q e => HNX.o q e))
  generalize wq.setRow gx (RC (g + 1) (.slice a1 L c1)) = w6 at *
  change wpAnyH _ _ _ _ _ 0 #[true, true, true, true, true, true, true, true, true, true, true, true, true] _ _
  refine wpAnyH_done (by kernel_rfl) ?_ _
  refine NoPanic.normal ?_
  have HEND := jq7 hL3
  clear hL3
  have hgxp : gx ≠ p := by have := HGE.o;have := Bk.lt HV5.o.blk;omega
  have h5w : w.heap.size < w5.heap.size := Bk.lt HE5.o.1
  have HR5L : Jq7 (r < w5.heap.size) := jq7 (Bk.lt HE5.o.2)
  have HP5L : Jq7 (p < w5.heap.size) := jq7 (Bk.lt HV5.o.blk)
  have HSN : Jq7 (¬ 1 = p ∧ ¬ 0 = p) := jq7 (by have := HSH.o.ne HV.o.blk (by show (4 : Nat) ≠ 8;decide) (by show (4 : Nat) ≠ 64;decide);exact ⟨fun e => this.1 e.symm, fun e => this.2 e.symm⟩)
  rcases HPL.o with ⟨hp, -⟩ | ⟨k, hk, hp, hkn, -⟩
  ·obtain ⟨i1, hy0, hz0, hz1, hz2⟩ := info_parts infoPr
   have HJ : Jq7 (Tryz.prog.info? 70 = some i1 ∧ i1.zero = some (.agg PZ2) ∧ i1.size = 2 ∧ i1.bytes = 16) := jq7 ⟨hy0, hz0, hz1, hz2⟩
   have HLM : Jq7 (m.ps.length ≤ 20) := jq7 (by rw [HLL.o];exact h20)
   have HNM := jq7 (HNQ.o hp)
   clear hy0 hz0 hz1 hz2
   have HNL : Jq7 ((m.ps ++ [(n, to)]).length = (L + 1)) := jq7 (by simp [HLL.o])
   have HRN : Jq7 (∀ a c, rval (nextM m n to) a c = RC (g + 1) (.slice a (L + 1) c)) := jq7 (fun a c => by
    rw [HNM.o]
    show RC (m.gen + 1) (.slice a (m.ps ++ [(n, to)]).length c) = _
    rw [HGG.o, HNL.o])
   have HRW0 : Jq7 (∀ W base a c, RowP W base (.slice a (L + 1) c) (m.ps ++ [(n, to)]) → RV W (nextM m n to) a c) := jq7 (fun W base a c h => by rw [HNM.o];exact (Row.rv (g := 0) (m := (⟨m.gen + 1, m.ps ++ [(n, to)]⟩ : Rm)) h).2)
   have HKX : Jq7 (∀ W s1 n1 c1 k1 a c, Sh W → DAt W p d3 s1 n1 c1 k1 → RV W (nextM m n to) a c → Calls Tryz.prog 63 #[.pointer (some ⟨p, 0, none⟩), .agg (RC (g + 1) (.slice a (L + 1) c))] W fun e w' => e = .returned (.int .i64 e5) ∧ Now W w' p d4) := jq7 (fun W s1 n1 c1 k1 a c h1 h2 h3 => by have := HKE.o W s1 n1 c1 k1 a c h1 h2 h3;rwa [HRN.o] at this)
   subst hp
   go_wp2_with (first | ((with_reducible show wkq (.load 28 _) _);refine lr 28 r (RC g (.slice a L c)) HEND.o.2.1 (HIN.o _ _) ?_) | (go_at_call 62;(with_reducible refine (HPC.o _ (HRV5.o.keep HEND.o.2.2)).mono ?_);rintro e w7 ⟨rfl, hf7⟩;have HGX7 := kq0 hf7 HGX6;have HRW7 := jq7 (HRW6.o.keep0 hf7);have HF57 := jq7 (HEND.o.2.2.then0 hf7);have HR7 := jq7 (hf7.keep HEND.o.2.1 (fun h => h));have gx1 : w7.cell? ⟨gx, 1, none⟩ = some (.slice a1 L c1) := Bk.cell HGX7.o 1;clear hf7) | ((with_reducible show wkq (.build 70 _) _);refine build_ev rfl 70 _ rfl [(0, .int .i64 n), (1, .int .i64 to)] (by simp [Act.eval, Act.put]) (PR (n, to)).toArray (built_pr _ _) ?_) | ((with_reducible show wkq (.buildSlice 26 1 _) _);refine wpList_plain rfl fun K hK => ?_;refine GApp.wp_buildSlice_one 26 _ rfl 70 i1 _ 2 Tryz.underlying26 HJ.o.1 HJ.o.2.1 HJ.o.2.2.1 (by decide) (by decide) (PR (n, to)).toArray rfl rfl ?_;refine hK _ _ ?_) | (at_builtin;refine wpList_plain rfl fun K hK => ?_;obtain ⟨v8, w8, hr8, hw8, hf8, hn8⟩ := Row.append1 (P := Tryz.prog) (f := PR) (k := 2) (e := 70) (w7.alloc (.cells (PR (n, to)).toArray 70)) 26 26 i1 _ 16 w5.heap.size Tryz.underlying26 HJ.o.1 HJ.o.2.1 HJ.o.2.2.1 HJ.o.2.2.2 rfl (by decide) (.slice a1 L c1) m.ps (HRW7.o.keep0 (Fr.alloc (Fr.refl _ _) _)) (by have h1 := HF57.o.size;simp;omega) (fun x _ => PR_len x) w7.heap.size 1 (n, to) rfl (PR_one _) (Bk.new w7 _) (by have h1 := HLM.o;omega) (by have h1 := HLM.o;omega);obtain ⟨a8, c8, hv8, -⟩ := hw8.form;rw [HNL.o] at hv8;subst hv8;refine GApp.wp_append_run (.tmp 67) (.tmp 71) 26 (by rfl) _ _ _ (by rfl) (by rfl) hr8 ?_;refine hK _ _ ?_;have HGX8 := jq7 (hf8.keep (Bk.alloc HGX7.o _) (fun e => HNX.o _ e rfl));have HR8 := jq7 (hf8.keep (Bk.alloc HR7.o _) (fun e => by have h1 := (HRW7.o.blk _ e).1;have h2 := HR5L.o;omega));have HF58 : Jq7 (Fr0 w5 w8) := jq7 ((Fr.alloc HF57.o _).then hf8 (fun i hi e => by have h1 := (HRW7.o.blk _ e).1;omega));have HNX8 : Jq7 (∀ q, ((.slice a8 (L + 1) c8) : Value).ownBlock = some q → q ≠ gx) := jq7 (fun q e => (hn8 q e).elim (fun h => HNX.o q h) (fun h => by have h2 := Bk.lt HGX7.o;simp at h;omega));have HW8 := jq7 hw8;have gx8 : w8.cell? ⟨gx, 1, none⟩ = some (.slice a1 L c1) := Bk.cell HGX8.o 1;have fx8 := Bk.free HGX8.o 1;have HGX9 : Jq7 (Bk (w8.setCell ⟨gx, 1, none⟩ (.slice a8 (L + 1) c8)) gx (RC (g + 1) (.slice a8 (L + 1) c8)) 28) := jq7 (Bk.set HGX8.o 1 (.slice a8 (L + 1) c8));have HR9 : Jq7 (Bk (w8.setCell ⟨gx, 1, none⟩ (.slice a8 (L + 1) c8)) r (RC g (.slice a L c)) 28) := jq7 (Bk.setOther HR8.o _ _ (by show r ≠ gx;have h1 := HGE.o;have h2 := HR5L.o;omega));have HW9 : Jq7 (RowP (w8.setCell ⟨gx, 1, none⟩ (.slice a8 (L + 1) c8)) w5.heap.size (.slice a8 (L + 1) c8) (m.ps ++ [(n, to)])) := jq7 (HW8.o.keep (Fr.set1 w8 gx 1 (.slice a8 (L + 1) c8)) (fun q e => HNX8.o q e));have HF59 : Jq7 (Fr0 w5 (w8.setCell ⟨gx, 1, none⟩ (.slice a8 (L + 1) c8))) := jq7 (Fr.set HF58.o _ _ (.inl (by show w5.heap.size ≤ gx;exact HGE.o)));clear hr8 hw8 hf8 hn8) | (go_at_call 18;(with_reducible refine (HFL.o _ _ _ _ _ (HV5.o.keep HF59.o)).mono ?_);rintro e w10 ⟨rfl, ⟨sA, nA, cA, mA, hvA⟩, hf10⟩;have HV10 := jq7 hvA;have HGX10 := jq7 (hf10.keep HGX9.o hgxp);have HR10 := jq7 (hf10.keep HR9.o hrp);have HW10 : Jq7 (RowP w10 w5.heap.size (.slice a8 (L + 1) c8) (m.ps ++ [(n, to)])) := jq7 (HW9.o.keep hf10 (fun q e => by have h1 := (HW9.o.blk q e).1;have h2 := HP5L.o;omega));have HRV10 : Jq7 (RV w10 m a c) := jq7 (RV.past (HRV5.o.keep HF59.o) hf10 (HV5.o.keep HF59.o).blk);have HF10 : Jq7 (Fr (fun i => i = p) w w10) := jq7 ((HF5.o.trans (HF59.o.weaken (fun _ _ h => h.elim))).trans hf10);clear hvA hf10) | (go_at_call 63;(with_reducible refine (HKX.o _ _ _ _ _ a8 c8 (HSH.o.keep HF10.o HSN.o.1 HSN.o.2) HV10.o (HRW0.o _ _ _ _ HW10.o)).mono ?_);rintro e w11 ⟨rfl, ⟨sB, nB, cB, mB, hvB⟩, hf11⟩;have HV11 := jq7 hvB;have HGX11 := jq7 (hf11.keep HGX10.o hgxp);have HR11 := jq7 (hf11.keep HR10.o hrp);have HW11 : Jq7 (RowP w11 w5.heap.size (.slice a8 (L + 1) c8) (m.ps ++ [(n, to)])) := jq7 (HW10.o.keep hf11 (fun q e => by have h1 := (HW10.o.blk q e).1;have h2 := HP5L.o;omega));have HRV11 : Jq7 (RV w11 m a c) := jq7 (RV.past HRV10.o hf11 HV10.o.blk);have HF11 : Jq7 (Fr (fun i => i = p) w w11) := jq7 (HF10.o.trans hf11);clear hvB hf11) | ((with_reducible show wkq (.load 28 _) _);refine lr 28 gx (RC (g + 1) (.slice a8 (L + 1) c8)) HGX11.o (HIN.o _ _) ?_) | ((with_reducible show wkq (.load 28 _) _);refine lr 28 gx (RC (g + 1) (.slice a8 (L + 1) c8)) HGX10.o (HIN.o _ _) ?_) | ((with_reducible show wkq (.store 28 _ _) _);refine wpList_store_row rfl 28 _ _ rfl r (RC (g + 1) (.slice a8 (L + 1) c8)) rfl rfl 28 (RC g (.slice a L c)) HR11.o (HIN.o _ _) rfl (RC_all _ _ _ _) ?_))
   all_goals go_ret
   all_goals (try simp only [bne_iff_ne, ne_eq, beq_iff_eq, bne_eq_false_iff_eq, beq_eq_false_iff_ne] at *)
   all_goals first | (obtain ⟨rfl, rfl, rfl⟩ := wr_parts (HX4.o (by trivial) (by trivial) (by omega) (by omega));exact ⟨rfl, ⟨_, _, _, _, HV10.o⟩, ⟨a, c, by rw [HRR.o];exact HR10.o, HRV10.o⟩, HF10.o.weaken (fun _ _ h => .inl h)⟩) | (obtain ⟨rfl, rfl, rfl⟩ := wr_parts (HX5.o (by trivial) (by trivial) (by omega) (by omega) (by omega));exact ⟨rfl, ⟨_, _, _, _, HV11.o⟩, ⟨a, c, by rw [HRR.o];exact HR11.o, HRV11.o⟩, HF11.o.weaken (fun _ _ h => .inl h)⟩) | (obtain ⟨rfl, rfl, rfl⟩ := wr_parts (HX6.o (by trivial) (by trivial) (by omega) (by omega) (by omega));have h12 : Fr (fun i => i = r) w11 (w11.setRow r (RC (g + 1) (.slice a8 (L + 1) c8))) := Fr.row1 _ r _;exact ⟨rfl, ⟨_, _, _, _, DAt_past HV11.o HDO.o h12 HR11.o (rc_no _ _ _ _) (fun e => hrp e.symm)⟩, ⟨a8, c8, by rw [HRN.o];exact ArrKit.Bk.row HR11.o _, HRW0.o _ _ _ _ (HW11.o.keep h12 (fun q e => by have h1 := (HW11.o.blk q e).1;have h2 := HR5L.o;omega))⟩, Fr.then (HF11.o.weaken (fun _ _ h => .inl h)) h12 (fun i _ e => .inr e)⟩) | (obtain ⟨rfl, rfl, rfl⟩ := wr_parts (HX3.o (by trivial) (by trivial) (by omega) (by omega));exact ⟨rfl, ⟨_, _, _, _, HV5.o.keep HF57.o⟩, ⟨a, c, by rw [HRR.o];exact HR7.o, HRV5.o.keep HF57.o⟩, (HF5.o.then0 HF57.o).weaken (fun _ _ h => .inl h)⟩)
  ·obtain ⟨g1, c2, cur, ev, hb1, ho1⟩ : ∃ g1 c2 cur, (.slice a1 L c1 : Value) = .slice (some ⟨g1, 0, none⟩) m.ps.length c2 ∧ w5.heap.size ≤ g1 ∧ OwnP w6 g1 c2 cur m.ps := by
    rcases HRW6.o with ⟨-, e⟩ | h
    ·rw [e] at hk;cases hk
    ·exact h
   injection ev with ev1 ev2 ev3
   subst ev1 ev3
   have HKN : Jq7 (∃ h : k < m.ps.length, m.ps[k].1 = n) := jq7 ⟨hk, hkn⟩
   have hkL : k < L := by rw [← HLL.o];exact hk
   have HG1 : Jq7 (w5.heap.size ≤ g1 ∧ g1 ≠ gx) := jq7 ⟨hb1, HNX.o g1 rfl⟩
   have HO6 := jq7 ho1
   obtain ⟨k2, hk2⟩ : ∃ k2, cur[k * 2 + 1]? = some (.int .i64 k2) := ⟨_, ho1.here k hk 1 _ rfl⟩
   have HK2 := jq7 hk2
   have HNM := jq7 (HNP.o k hp)
   clear hb1 ho1 ev2 hk2 hk hkn
   have HNL : Jq7 ((m.ps.set k (n, to)).length = L) := jq7 (by simp [HLL.o])
   have HRN : Jq7 (∀ a c, rval (nextM m n to) a c = RC (g + 1) (.slice a L c)) := jq7 (fun a c => by
    rw [HNM.o]
    show RC (m.gen + 1) (.slice a (m.ps.set k (n, to)).length c) = _
    rw [HGG.o, HNL.o])
   have HRW0 : Jq7 (∀ W base a c, RowP W base (.slice a L c) (m.ps.set k (n, to)) → RV W (nextM m n to) a c) := jq7 (fun W base a c h => by rw [HNM.o];exact (Row.rv (g := 0) (m := (⟨m.gen + 1, m.ps.set k (n, to)⟩ : Rm)) h).2)
   have HKX : Jq7 (∀ W s1 n1 c1 k1 a c, Sh W → DAt W p d3 s1 n1 c1 k1 → RV W (nextM m n to) a c → Calls Tryz.prog 63 #[.pointer (some ⟨p, 0, none⟩), .agg (RC (g + 1) (.slice a L c))] W fun e w' => e = .returned (.int .i64 e5) ∧ Now W w' p d4) := jq7 (fun W s1 n1 c1 k1 a c h1 h2 h3 => by have := HKE.o W s1 n1 c1 k1 a c h1 h2 h3;rwa [HRN.o] at this)
   subst hp
   go_wp2_with (first | ((with_reducible show wkq (.load 28 _) _);refine lr 28 r (RC g (.slice a L c)) HEND.o.2.1 (HIN.o _ _) ?_) | (go_at_call 62;(with_reducible refine (HPC.o _ (HRV5.o.keep HEND.o.2.2)).mono ?_);rintro e w7 ⟨rfl, hf7⟩;have HGX7 := kq0 hf7 HGX6;have HRW7 := jq7 (HRW6.o.keep0 hf7);have HF57 := jq7 (HEND.o.2.2.then0 hf7);have HR7 := jq7 (hf7.keep HEND.o.2.1 (fun h => h));have gx1 : w7.cell? ⟨gx, 1, none⟩ = some (.slice (some ⟨g1, 0, none⟩) L c1) := Bk.cell HGX7.o 1;have HO7 := jq7 (OwnG.keep HO6.o hf7 (fun h => h));have g7 : w7.cell? ⟨g1, k * 2 + 1, none⟩ = some (.int .i64 k2) := (Bk.cell HO7.o.blk _).trans HK2.o;have fx7 := Bk.free HO7.o.blk (k * 2 + 1);have HO9 : Jq7 (OwnP (w7.setCell ⟨g1, k * 2 + 1, none⟩ (.int .i64 to)) g1 c1 _ (m.ps.set k (n, to))) := jq7 (own_to HO7.o HKN.o.1 HKN.o.2 to);have HW9 : Jq7 (RowP (w7.setCell ⟨g1, k * 2 + 1, none⟩ (.int .i64 to)) w5.heap.size (.slice (some ⟨g1, 0, none⟩) L c1) (m.ps.set k (n, to))) := jq7 (.inr ⟨g1, c1, _, by rw [HNL.o], HG1.o.1, HO9.o⟩);have HGX9 : Jq7 (Bk (w7.setCell ⟨g1, k * 2 + 1, none⟩ (.int .i64 to)) gx (RC (g + 1) (.slice (some ⟨g1, 0, none⟩) L c1)) 28) := jq7 (Bk.setOther HGX7.o _ _ (by show gx ≠ g1;exact fun e => HG1.o.2 e.symm));have HR9 : Jq7 (Bk (w7.setCell ⟨g1, k * 2 + 1, none⟩ (.int .i64 to)) r (RC g (.slice a L c)) 28) := jq7 (Bk.setOther HR7.o _ _ (by show r ≠ g1;have h1 := HG1.o.1;have h2 := HR5L.o;omega));have HF59 : Jq7 (Fr0 w5 (w7.setCell ⟨g1, k * 2 + 1, none⟩ (.int .i64 to))) := jq7 (Fr.set HF57.o _ _ (.inl (by show w5.heap.size ≤ g1;exact HG1.o.1)));clear hf7) | (go_at_call 18;(with_reducible refine (HFL.o _ _ _ _ _ (HV5.o.keep HF59.o)).mono ?_);rintro e w10 ⟨rfl, ⟨sA, nA, cA, mA, hvA⟩, hf10⟩;have HV10 := jq7 hvA;have HGX10 := jq7 (hf10.keep HGX9.o hgxp);have HR10 := jq7 (hf10.keep HR9.o hrp);have HW10 : Jq7 (RowP w10 w5.heap.size (.slice (some ⟨g1, 0, none⟩) L c1) (m.ps.set k (n, to))) := jq7 (HW9.o.keep hf10 (fun q e => by have h1 := (HW9.o.blk q e).1;have h2 := HP5L.o;omega));have HRV10 : Jq7 (RV w10 m a c) := jq7 (RV.past (HRV5.o.keep HF59.o) hf10 (HV5.o.keep HF59.o).blk);have HF10 : Jq7 (Fr (fun i => i = p) w w10) := jq7 ((HF5.o.trans (HF59.o.weaken (fun _ _ h => h.elim))).trans hf10);clear hvA hf10) | (go_at_call 63;(with_reducible refine (HKX.o _ _ _ _ _ (some ⟨g1, 0, none⟩) c1 (HSH.o.keep HF10.o HSN.o.1 HSN.o.2) HV10.o (HRW0.o _ _ _ _ HW10.o)).mono ?_);rintro e w11 ⟨rfl, ⟨sB, nB, cB, mB, hvB⟩, hf11⟩;have HV11 := jq7 hvB;have HGX11 := jq7 (hf11.keep HGX10.o hgxp);have HR11 := jq7 (hf11.keep HR10.o hrp);have HW11 : Jq7 (RowP w11 w5.heap.size (.slice (some ⟨g1, 0, none⟩) L c1) (m.ps.set k (n, to))) := jq7 (HW10.o.keep hf11 (fun q e => by have h1 := (HW10.o.blk q e).1;have h2 := HP5L.o;omega));have HRV11 : Jq7 (RV w11 m a c) := jq7 (RV.past HRV10.o hf11 HV10.o.blk);have HF11 : Jq7 (Fr (fun i => i = p) w w11) := jq7 (HF10.o.trans hf11);clear hvB hf11) | ((with_reducible show wkq (.load 28 _) _);refine lr 28 gx (RC (g + 1) (.slice (some ⟨g1, 0, none⟩) L c1)) HGX11.o (HIN.o _ _) ?_) | ((with_reducible show wkq (.load 28 _) _);refine lr 28 gx (RC (g + 1) (.slice (some ⟨g1, 0, none⟩) L c1)) HGX10.o (HIN.o _ _) ?_) | ((with_reducible show wkq (.store 28 _ _) _);refine wpList_store_row rfl 28 _ _ rfl r (RC (g + 1) (.slice (some ⟨g1, 0, none⟩) L c1)) rfl rfl 28 (RC g (.slice a L c)) HR11.o (HIN.o _ _) rfl (RC_all _ _ _ _) ?_))
   all_goals go_ret
   all_goals (try simp only [bne_iff_ne, ne_eq, beq_iff_eq, bne_eq_false_iff_eq, beq_eq_false_iff_ne] at *)
   all_goals first | (obtain ⟨rfl, rfl, rfl⟩ := wr_parts (HX4.o (by trivial) (by trivial) (by omega) (by omega));exact ⟨rfl, ⟨_, _, _, _, HV10.o⟩, ⟨a, c, by rw [HRR.o];exact HR10.o, HRV10.o⟩, HF10.o.weaken (fun _ _ h => .inl h)⟩) | (obtain ⟨rfl, rfl, rfl⟩ := wr_parts (HX5.o (by trivial) (by trivial) (by omega) (by omega) (by omega));exact ⟨rfl, ⟨_, _, _, _, HV11.o⟩, ⟨a, c, by rw [HRR.o];exact HR11.o, HRV11.o⟩, HF11.o.weaken (fun _ _ h => .inl h)⟩) | (obtain ⟨rfl, rfl, rfl⟩ := wr_parts (HX6.o (by trivial) (by trivial) (by omega) (by omega) (by omega));have h12 : Fr (fun i => i = r) w11 (w11.setRow r (RC (g + 1) (.slice (some ⟨g1, 0, none⟩) L c1))) := Fr.row1 _ r _;exact ⟨rfl, ⟨_, _, _, _, DAt_past HV11.o HDO.o h12 HR11.o (rc_no _ _ _ _) (fun e => hrp e.symm)⟩, ⟨(some ⟨g1, 0, none⟩), c1, by rw [HRN.o];exact ArrKit.Bk.row HR11.o _, HRW0.o _ _ _ _ (HW11.o.keep h12 (fun q e => by have h1 := (HW11.o.blk q e).1;have h2 := HR5L.o;omega))⟩, Fr.then (HF11.o.weaken (fun _ _ h => .inl h)) h12 (fun i _ e => .inr e)⟩)

theorem write_calls (p r : Nat) (d : Dk) (sa : Option Addr) (sc : Nat) (ca : Option Addr) (cc : Nat) (m : Rm) (a : Option Addr) (c : Nat) (b : List UInt8) (n : Int) (w : World) (hok : d.ok) (hv : DAt w p d sa sc ca cc) (hm : m.ok) (hrv : RV w m a c) (hb : b.length = 128) (hR : Bk w r (rval m a c) 28) (hrp : r ≠ p) (hsh : Sh w) (hn : (Lit.int .i64 n).wf = true) (hC : d.C.length ≤ 900) : Calls Tryz.prog 31 #[.pointer (some ⟨p, 0, none⟩), .pointer (some ⟨r, 0, none⟩), .int .i64 n, .agg (b.map B).toArray] w fun e w' => e = .returned (.int .i64 (wrX d m n b).1) ∧ DIn w' p (wrX d m n b).2.1 ∧ (∃ a' c', Bk w' r (rval (wrX d m n b).2.2 a' c') 28 ∧ RV w' (wrX d m n b).2.2 a' c') ∧ Fr (fun i => i = p ∨ i = r) w w' := by
 cases h1 : askedB d m n with
 | false => rw [wrX_no h1];exact wr0 p r d sa sc ca cc m a c b _ n _ w rfl rfl hok hv hm hrv hb hR hrp hsh hn hC h1
 | true => exact wr1 p r d sa sc ca cc m a c b _ n _ w rfl rfl hok hv hm hrv hb hR hrp hsh hn hC h1 _ _ _ rfl

end Go.Proofs.YtmkmpfnadcmcoaaGreatDoor.RmWrite
