/- The theorems that the claim uses, text behind text (part 19). -/
import Derived.Test.YtmkmpfnadcmcoaaDoorXap
import Derived.Test.YtmkmpfnadcmcoaaDoorXaq
import Derived.Test.YtmkmpfnadcmcoaaDoorXar
set_option maxRecDepth 100000
set_option linter.unusedVariables false
set_option linter.unusedSimpArgs false
namespace Go.Proofs.YtmkmpfnadcmcoaaDoor.RmWrite
open Go Go.RowKit Go.Proofs.YtmkmpfnadcmcoaaDoor.K Go.Proofs.YtmkmpfnadcmcoaaDoor.EqKit Go.Proofs.YtmkmpfnadcmcoaaDoor.ArrKit Go.Proofs.YtmkmpfnadcmcoaaDoor.HeldKit Go.Proofs.YtmkmpfnadcmcoaaDoor.GKit Go.Proofs.YtmkmpfnadcmcoaaDoor.GRow Go.Proofs.YtmkmpfnadcmcoaaDoor.DiskKit Go.Proofs.YtmkmpfnadcmcoaaDoor.RmKit Go.Proofs.YtmkmpfnadcmcoaaDoor.MapKit Go.Proofs.YtmkmpfnadcmcoaaDoor.RmRight Go.Proofs.YtmkmpfnadcmcoaaDoor.RmTab Go.Proofs.YtmkmpfnadcmcoaaDoor.RmPut Go.Proofs.YtmkmpfnadcmcoaaDoor.RmAsk Go.Proofs.YtmkmpfnadcmcoaaDoor.RmSame Go.Proofs.YtmkmpfnadcmcoaaDoor.DiskRRead Go.Proofs.YtmkmpfnadcmcoaaDoor.RmRead Go.Proofs.YtmkmpfnadcmcoaaDoor.RmReads Go.Proofs.YtmkmpfnadcmcoaaDoor.DiskAct Go.Proofs.YtmkmpfnadcmcoaaDoor.RmSpare Go.Proofs.YtmkmpfnadcmcoaaDoor.RmKeep Go.Proofs.YtmkmpfnadcmcoaaDoor.RmFirst Go.Proofs.YtmkmpfnadcmcoaaDoor.RmAliveP Go.Proofs.YtmkmpfnadcmcoaaDoor.RmWrX Go.Proofs.YtmkmpfnadcmcoaaDoor.RowG
abbrev RowP (w : World) (base : Nat) (v : Value) (l : List (Int × Int)) : Prop := Row PR 2 98 w base v l
theorem Row.less {w : World} {b0 base : Nat} {v : Value} {l : List (Int × Int)} (h : RowP w base v l) (hb : b0 ≤ base) : RowP w b0 v l := by
  rcases h with h | ⟨g, cap, cur, rfl, hb', ho⟩
  · exact .inl h
  · exact .inr ⟨g, cap, cur, rfl, by omega, ho⟩
theorem Row.rv {w : World} {base g : Nat} {a : Option Addr} {L c : Nat} {m : Rm} (h : RowP w base (.slice a L c) m.ps) : L = m.ps.length ∧ RV w m a c := by
  obtain ⟨a', c', e, h1, h2, h3, -⟩ := h.form
  injection e with e1 e2 e3
  subst e1 e2 e3
  exact ⟨rfl, h3, h1, h2⟩
theorem own_to {w : World} {g cap : Nat} {cur : Array Value} {l : List (Int × Int)} (h : OwnP w g cap cur l) {k : Nat} (hk : k < l.length) {n : Int} (hn : l[k].1 = n) (to : Int) : OwnP (w.setCell ⟨g, k * 2 + 1, none⟩ (.int .i64 to)) g cap (cur.setIfInBounds (k * 2 + 1) (.int .i64 to)) (l.set k (n, to)) := by
  have h0 := h.here k hk 0 (.int .i64 n) (by rw [← hn]; rfl)
  have h1 := h.here k hk 1 (.int .i64 l[k].2) rfl
  have hs : k * 2 + 1 < cur.size := (Array.getElem?_eq_some_iff.1 h1).1
  refine OwnG.set h (fun _ _ => rfl) hk (n, to) rfl _ _ (Bk.set h.blk _ _) (by rw [Array.size_setIfInBounds]) (fun j u hj => ?_) (fun q hq => by rw [Array.getElem?_setIfInBounds, if_neg (by omega)])
  rcases (show j = 0 ∨ j = 1 ∨ 2 ≤ j by omega) with rfl | rfl | h2
  · rw [Array.getElem?_setIfInBounds, if_neg (by omega), ← Option.some.inj hj]; exact h0
  · rw [Array.getElem?_setIfInBounds, if_pos rfl, if_pos hs, ← Option.some.inj hj]
  · rw [List.getElem?_eq_none (show (PR (n, to)).length ≤ j from h2)] at hj; cases hj
set_option maxHeartbeats 2000000 in
set_option maxRecDepth 100000 in
theorem clone_calls (l : List (Int × Int)) (a : Option Addr) (L c : Nat) (w : World) (hL : l.length = L) (hr : RdP w a l) (hlen : L ≤ 8796093022208) : Calls Tryd.prog 45 #[.slice a L c] w fun e w' => ∃ a' c', e = .returned (.slice a' L c') ∧ RowP w' w.heap.size (.slice a' L c') l ∧ Fr0 w w' := by
  have hes := @Lib.run_eql_slice_nil Tryd.prog
  cases a with
  | none =>
    have h0 := GApp.RdG.none_len hr
    obtain rfl := List.length_eq_zero_iff.1 h0
    rw [h0] at hL
    subst hL
    go_enter Tryd.func45, Tryd.ntmps45
    go_wp2
    go_ret
    exact ⟨none, 0, rfl, .inl ⟨rfl, rfl⟩, Fr.refl _ _⟩
  | some b =>
    obtain ⟨i1, hy0, hz0, hz1, hz2⟩ := info_parts infoPr
    have HJ : Hid (Tryd.prog.info? 98 = some i1 ∧ i1.zero = some (.agg PZ2) ∧ i1.size = 2 ∧ i1.bytes = 16) := Lib.hid ⟨hy0, hz0, hz1, hz2⟩
    clear hy0 hz0 hz1 hz2
    have HE : Hid (Bk (w.alloc (.cells #[] 98)) w.heap.size #[] 98) := Lib.hid (Bk.new _ _)
    have HF : Hid (Fr0 w (w.alloc (.cells #[] 98))) := Lib.hid (Fr.alloc (Fr.refl _ _) _)
    have HRD := Lib.hid (hr.keep HF.out)
    have HLL := Lib.hid hL
    clear hr hL
    go_enter Tryd.func45, Tryd.ntmps45
    go_wp2_with (first | ((with_reducible show wpList _ _ _ ({ dst := _, op := Op.buildSlice 30 0 _, type := _, pos := _, after := _, guard := _ } :: _) _ _); refine wpList_plain rfl fun K hK => ?_; refine GApp.wp_buildSlice_nil 30 rfl 98 i1 Tryd.underlying30 HJ.out.1 ?_; refine hK _ _ ?_) | (at_builtin; refine wpList_append_all rfl (.tmp 5) (.tmp 6) 30 (by rfl) i1 (.agg PZ2) 16 Tryd.underlying30 HJ.out.1 HJ.out.2.1 HJ.out.2.2.1 HJ.out.2.2.2 rfl (by decide) w.heap.size HE.out (by rfl) (some b) L c (by rfl) l HLL.out HRD.out (fun x _ => PR_len x) (fun x _ => PR_one x) (by omega) (by omega) ?_; intro g cap cur w1 hge hown hfr; have HO1 := Lib.hid hown; have HF1 : Hid (Fr0 w w1) := Lib.hid (Fr.newG HF.out hfr (by omega)); have HGE := Lib.hid hge; clear hge hown hfr))
    go_ret
    exact ⟨some ⟨g, 0, none⟩, cap, rfl, .inr ⟨g, cap, cur, by rw [HLL.out], HGE.out, HO1.out⟩, HF1.out⟩
theorem built_rv (x : Int) (a : Option Addr) (L c : Nat) : Tryd.prog.built 32 [(0, .int .i64 x), (1, .slice a L c)] = some (RC x (.slice a L c)) := by kernel_rfl

theorem atI_wf {m : Rm} {n : Int} (hm : m.ok) (hn : (Lit.int .i64 n).wf = true) : (Lit.int .i64 (atI m n)).wf = true := by
  unfold atI
  split
  · rename_i x hx; exact (hm.p _ (List.mem_of_find?_eq_some hx)).2
  · exact hn

set_option maxHeartbeats 2000000 in
set_option maxRecDepth 100000 in
theorem wr0 (p r : Nat) (d : Dk) (sa : Option Addr) (sc : Nat) (ca : Option Addr) (cc : Nat) (m : Rm) (a : Option Addr) (c : Nat) (b : List UInt8) (g n : Int) (L : Nat) (w : World) (hg : m.gen = g) (hL : m.ps.length = L) (hok : d.ok) (hv : DAt w p d sa sc ca cc) (hm : m.ok) (hrv : RV w m a c) (hb : b.length = 128) (hR : Bk w r (RC g (.slice a L c)) 32) (hrp : r ≠ p) (hsh : Sh w) (hn : (Lit.int .i64 n).wf = true) (hC : d.C.length ≤ 900) (h1 : askedB d m n = false) : Calls Tryd.prog 19 #[.pointer (some ⟨p, 0, none⟩), .pointer (some ⟨r, 0, none⟩), .int .i64 n, .agg (b.map B).toArray] w fun e w' => e = .returned (.int .i64 1) ∧ DIn w' p d ∧ (∃ a' c', Bk w' r (rval m a' c') 32 ∧ RV w' m a' c') ∧ Fr (fun i => i = p ∨ i = r) w w' := by
  have hrr : rval m a c = (RC g (.slice a L c)) := by unfold rval; rw [hg, hL]
  have HRR := Lib.hid hrr
  have HV := Lib.hid hv
  have HR := Lib.hid hR
  have HRV := Lib.hid hrv
  have hpw : p < w.heap.size := Bk.lt hv.blk
  have hrw : r < w.heap.size := Bk.lt hR
  have HB1 : Hid (Bk (w.alloc (.cells (b.map B).toArray 22)) w.heap.size (b.map B).toArray 22) := Lib.hid (Bk.new w _)
  have HF1 : Hid (Fr0 w (w.alloc (.cells (b.map B).toArray 22))) := Lib.hid (Fr.alloc (Fr.refl _ _) _)
  have HR1 := Lib.hid (HF1.out.keep hR (fun h => h))
  have HAS : Hid (∀ W, Fr0 w W → Calls Tryd.prog 31 #[.pointer (some ⟨p, 0, none⟩), .agg (RC g (.slice a L c)), .int .i64 n] W fun e w' => e = .returned (.bool false) ∧ Fr0 W w') := Lib.hid (fun W f => by have := asked_calls p d sa sc ca cc m a c n W hok (hv.keep f) hm (hrv.keep f) hn; rwa [h1, hrr] at this)
  have HIB := Lib.hid (info_l hb)
  have HIN : Hid (∀ x y, (Tryd.prog.info? 32).map (·.size) = some (RC x y).size) := Lib.hid (fun _ _ => info_r _ _)
  have hzr := zero_r
  clear hrr hok hv hR hrv hsh h1 hb hn hm hC hg hL
  have q0 : w.cell? ⟨r, 0, none⟩ = some (.int .i64 g) := Bk.cell HR.out 0
  have q1 : w.cell? ⟨r, 1, none⟩ = some (.slice a L c) := Bk.cell HR.out 1
  go_enter Tryd.func19, Tryd.ntmps19
  go_wp2_with (first | ((with_reducible show wpList _ _ _ ({ dst := _, op := Op.load 32 _, type := _, pos := _, after := _, guard := _ } :: _) _ _); refine wpList_load_row_g (by rfl) 32 _ rfl r rfl 32 (RC g (.slice a L c)) (0, 0) _ HR1.out Tryd.underlying32 rfl (HIN.out _ _) ?_) | (go_at_call 31; (with_reducible refine (HAS.out _ HF1.out).mono ?_); rintro e w2 ⟨rfl, hf2⟩; have HF2 := Lib.hid (HF1.out.then0 hf2); have HB2 := Lib.hid (hf2.keep HB1.out (fun h => h)); have HR2 := Lib.hid (hf2.keep HR1.out (fun h => h)); clear hf2))
  go_ret
  exact ⟨rfl, ⟨_, _, _, _, HV.out.keep HF2.out⟩, ⟨a, c, by rw [HRR.out]; exact HR2.out, HRV.out.keep HF2.out⟩, HF2.out.weaken (fun _ _ h => h.elim)⟩
theorem wr_parts {E E' : Int} {D D' : Dk} {M M' : Rm} (h : (E, D, M) = (E', D', M')) : E = E' ∧ D = D' ∧ M = M' := by
  injection h with h1 h
  injection h with h2 h3
  exact ⟨h1, h2, h3⟩

set_option maxHeartbeats 2000000 in
set_option maxRecDepth 100000 in
theorem wr1 (p r : Nat) (d : Dk) (sa : Option Addr) (sc : Nat) (ca : Option Addr) (cc : Nat) (m : Rm) (a : Option Addr) (c : Nat) (b : List UInt8) (g n : Int) (L : Nat) (w : World) (hg : m.gen = g) (hL : m.ps.length = L) (hok : d.ok) (hv : DAt w p d sa sc ca cc) (hm : m.ok) (hrv : RV w m a c) (hb : b.length = 128) (hR : Bk w r (RC g (.slice a L c)) 32) (hrp : r ≠ p) (hsh : Sh w) (hn : (Lit.int .i64 n).wf = true) (hC : d.C.length ≤ 900) (h1 : askedB d m n = true) (E0 : Int) (D0 : Dk) (M0 : Rm) (hX : wrX d m n b = (E0, D0, M0)) : Calls Tryd.prog 19 #[.pointer (some ⟨p, 0, none⟩), .pointer (some ⟨r, 0, none⟩), .int .i64 n, .agg (b.map B).toArray] w fun e w' => e = .returned (.int .i64 E0) ∧ DIn w' p D0 ∧ (∃ a' c', Bk w' r (rval M0 a' c') 32 ∧ RV w' M0 a' c') ∧ Fr (fun i => i = p ∨ i = r) w w' := by
  have hrr : rval m a c = (RC g (.slice a L c)) := by unfold rval; rw [hg, hL]
  have HRR := Lib.hid hrr
  have HV := Lib.hid hv
  have HR := Lib.hid hR
  have HRV := Lib.hid hrv
  have hpw : p < w.heap.size := Bk.lt hv.blk
  have hrw : r < w.heap.size := Bk.lt hR
  have HB1 : Hid (Bk (w.alloc (.cells (b.map B).toArray 22)) w.heap.size (b.map B).toArray 22) := Lib.hid (Bk.new w _)
  have HF1 : Hid (Fr0 w (w.alloc (.cells (b.map B).toArray 22))) := Lib.hid (Fr.alloc (Fr.refl _ _) _)
  have HR1 := Lib.hid (HF1.out.keep hR (fun h => h))
  have HAS : Hid (∀ W, Fr0 w W → Calls Tryd.prog 31 #[.pointer (some ⟨p, 0, none⟩), .agg (RC g (.slice a L c)), .int .i64 n] W fun e w' => e = .returned (.bool true) ∧ Fr0 W w') := Lib.hid (fun W f => by have := asked_calls p d sa sc ca cc m a c n W hok (hv.keep f) hm (hrv.keep f) hn; rwa [h1, hrr] at this)
  have HIB := Lib.hid (info_l hb)
  have HIN : Hid (∀ x y, (Tryd.prog.info? 32).map (·.size) = some (RC x y).size) := Lib.hid (fun _ _ => info_r _ _)
  have hzr := zero_r
  have hap := asked_parts h1
  have h20 : L ≤ 20 := by rw [← hL]; exact tab_len hap.1
  have hg0 : 0 ≤ g ∧ g ≤ 4611686018427387904 := by have := tab_parts hap.1; rw [hg] at this; exact ⟨this.2.1, this.2.2.1⟩
  have hln : m.ps.length ≤ 8796093022208 := by omega
  have haw : (Lit.int .i64 (atI m n)).wf = true := atI_wf hm hn
  have hlo := half_lo hap.2.2.2.2
  have hS := hap.2.2.2.2
  have HAT : Hid (∀ W, RV W m a c → Calls Tryd.prog 33 #[.agg (RC g (.slice a L c)), .int .i64 n] W fun e w' => e = .returned (.int .i64 (atI m n)) ∧ Fr0 W w') := Lib.hid (fun W hr => by have := at_calls m a c n W hr hln; rwa [hrr] at this)
  have HPC : Hid (∀ W, RV W m a c → Calls Tryd.prog 46 #[.agg (RC g (.slice a L c)), .int .i64 n] W fun e w' => e = .returned (.int .i64 (plc m n)) ∧ Fr0 W w') := Lib.hid (fun W hr => by have := place_calls m a c n W hr hln; rwa [hrr] at this)
  have HWR : Hid (∀ W, DAt W p d sa sc ca cc → Calls Tryd.prog 36 #[.pointer (some ⟨p, 0, none⟩), .int .i64 (atI m n), .agg (b.map B).toArray] W fun e w' => e = .returned (.int .i64 (writeE d (atI m n))) ∧ Now W w' p (writeD d (atI m n) b)) := Lib.hid (fun W h => DiskWrite.write_calls p (atI m n) b d sa sc ca cc W hok h hb (by omega) haw)
  have ho1 := writeD_ok hok hb haw
  have HSR : Hid (∀ W s1 n1 c1 k1, DAt W p (writeD d (atI m n) b) s1 n1 c1 k1 → RV W m a c → Calls Tryd.prog 44 #[.pointer (some ⟨p, 0, none⟩), .agg (RC g (.slice a L c)), .agg (b.map B).toArray] W fun e w' => e = .returned (.tuple #[.int .i64 (spX d m n b).1, .int .i64 (spX d m n b).2.1]) ∧ Now W w' p (spX d m n b).2.2) := Lib.hid (fun W s1 n1 c1 k1 h hr => by
    have := spare_calls p (writeD d (atI m n) b) s1 n1 c1 k1 m a c b W ho1 h hm hr hln hb (Nat.le_trans (writeD_C d (atI m n) b) (by omega)) (by rw [writeD_S]; exact hS)
    rw [writeD_S, hrr] at this
    exact this)
  have hsx := spareR_ok (m := m) hb 20 (2 * half (d.S.length : Int)) (writeD d (atI m n) b) ho1 (by omega) (by omega)
  have hcx := writeD_C d (atI m n) b
  rw [writeD_S] at hsx
  have hsd : spareR m b 20 (2 * half (d.S.length : Int)) (writeD d (atI m n) b) = spX d m n b := rfl
  rw [hsd] at hsx
  obtain ⟨⟨to, e3, d2⟩, h3⟩ : ∃ x, spX d m n b = x := ⟨_, rfl⟩
  rw [h3] at hsx hsd
  rw [h3] at HSR
  obtain ⟨s1, s2, s3, s4, s5, -⟩ := hsx
  have hto : (Lit.int .i64 to).wf = true := wf_small s4 (by show to ≤ _; have h6 : to ≤ 2 * half (d.S.length : Int) + (20 : Nat) := s5; omega)
  have hto0 : 0 ≤ to ∧ to ≤ 5000 := ⟨s4, by have h6 : to ≤ 2 * half (d.S.length : Int) + (20 : Nat) := s5; omega⟩
  have h4o := flushD_ok s1
  have h4s : (flushD d2).S.length = d.S.length := (flushD_S d2).trans s2
  have h4c : (flushD d2).C.length ≤ 2000 := Nat.le_trans (flushD_C d2) (by have h6 : d2.C.length ≤ (writeD d (atI m n) b).C.length + 20 := s3; omega)
  have HX1 : Hid (writeE d (atI m n) ≠ 2 → (E0, D0, M0) = (writeE d (atI m n), writeD d (atI m n) b, m)) := Lib.hid (fun h => hX.symm.trans (wrX_1 h1 rfl h))
  have HX2 : Hid (writeE d (atI m n) = 2 → e3 ≠ 0 → (E0, D0, M0) = (e3, d2, m)) := Lib.hid (fun h k => hX.symm.trans (wrX_2 h1 rfl h hsd k))
  have HX3 : Hid (writeE d (atI m n) = 2 → e3 = 0 → plc m n < 0 → L = 20 → (E0, D0, M0) = (17, d2, m)) := Lib.hid (fun h k k2 k3 => hX.symm.trans (wrX_3 h1 rfl h hsd k ⟨k2, hL.trans k3⟩))
  have HX4 : Hid (writeE d (atI m n) = 2 → e3 = 0 → ¬ (plc m n < 0 ∧ L = 20) → flushE d2 ≠ 0 → (E0, D0, M0) = (flushE d2, flushD d2, m)) := Lib.hid (fun h k k2 k4 => hX.symm.trans (wrX_4 h1 rfl h hsd k (by rw [hL]; exact k2) k4))
  have HX5 : Hid (writeE d (atI m n) = 2 → e3 = 0 → ¬ (plc m n < 0 ∧ L = 20) → flushE d2 = 0 → (keepX (flushD d2) (nextM m n to)).1 ≠ 0 → (E0, D0, M0) = ((keepX (flushD d2) (nextM m n to)).1, (keepX (flushD d2) (nextM m n to)).2, m)) := Lib.hid (fun h k k2 k4 k5 => hX.symm.trans (wrX_5 h1 rfl h hsd k (by rw [hL]; exact k2) k4 k5))
  have HX6 : Hid (writeE d (atI m n) = 2 → e3 = 0 → ¬ (plc m n < 0 ∧ L = 20) → flushE d2 = 0 → (keepX (flushD d2) (nextM m n to)).1 = 0 → (E0, D0, M0) = (0, (keepX (flushD d2) (nextM m n to)).2, nextM m n to)) := Lib.hid (fun h k k2 k4 k5 => hX.symm.trans (wrX_6 h1 rfl h hsd k (by rw [hL]; exact k2) k4 k5))
  have HFL : Hid (∀ W s1 n1 c1 k1, DAt W p d2 s1 n1 c1 k1 → Calls Tryd.prog 8 #[.pointer (some ⟨p, 0, none⟩)] W fun e w' => e = .returned (.int .i64 (flushE d2)) ∧ Now W w' p (flushD d2)) := Lib.hid (fun W s1' n1 c1 k1 h => DiskFlush.flush_calls p d2 s1' n1 c1 k1 W s1 h)
  have hg1w : (Lit.int .i64 (g + 1)).wf = true := wf_small (by omega) (by omega)
  have hmo := nextM_ok (m := m) (n := n) (to := to) hm hn hto (by rw [hg]; exact hg1w)
  have HKE : Hid (∀ W s1 n1 c1 k1 a c, Sh W → DAt W p (flushD d2) s1 n1 c1 k1 → RV W (nextM m n to) a c → Calls Tryd.prog 47 #[.pointer (some ⟨p, 0, none⟩), .agg (rval (nextM m n to) a c)] W fun e w' => e = .returned (.int .i64 (keepX (flushD d2) (nextM m n to)).1) ∧ Now W w' p (keepX (flushD d2) (nextM m n to)).2) := Lib.hid (fun W s1 n1 c1 k1 a c hsh h hr => keep_calls p (flushD d2) s1 n1 c1 k1 (nextM m n to) a c W h4o h hmo hr hsh h4c (by rw [h4s]; exact hS))
  have HDO := Lib.hid (keepX_ok (m := nextM m n to) h4o).1
  have HSH := Lib.hid hsh
  have HPL := Lib.hid (plc_cases m n)
  have HLL := Lib.hid hL
  have HGG := Lib.hid hg
  have HO1 := Lib.hid ho1
  have HNP : Hid (∀ k : Nat, plc m n = k → nextM m n to = ⟨m.gen + 1, m.ps.set k (n, to)⟩) := Lib.hid (fun k h => nextM_at to h)
  have HNQ : Hid (plc m n = -1 → nextM m n to = ⟨m.gen + 1, m.ps ++ [(n, to)]⟩) := Lib.hid (fun h => nextM_no to (by omega))
  clear hrr hok hv hR hrv hsh h1 hb hn hm hC hg hL hap hln haw hlo hS ho1 hcx hsd h3 s1 s2 s3 s4 s5 hto h4o h4s h4c hg1w hmo hX
  generalize hq : atI m n = q at *
  clear hq
  generalize he1 : writeE d q = e1 at *
  generalize hd1 : writeD d q b = d1 at *
  generalize he4 : flushE d2 = e4 at *
  generalize hd3 : flushD d2 = d3 at *
  generalize hkx : keepX d3 (nextM m n to) = kx at *
  generalize hpn : plc m n = pn at *
  obtain ⟨e5, d4⟩ := kx
  simp only at HX5 HX6 HKE HDO
  clear he1 hd1 he4 hd3 hkx hpn
  have q0 : w.cell? ⟨r, 0, none⟩ = some (.int .i64 g) := Bk.cell HR.out 0
  have q1 : w.cell? ⟨r, 1, none⟩ = some (.slice a L c) := Bk.cell HR.out 1
  go_enter Tryd.func19, Tryd.ntmps19
  go_wp2_with (first | ((with_reducible show wpList _ _ _ ({ dst := _, op := Op.load 32 _, type := _, pos := _, after := _, guard := _ } :: _) _ _); refine wpList_load_row_g (by rfl) 32 _ rfl r rfl 32 (RC g (.slice a L c)) (0, 0) _ HR1.out Tryd.underlying32 rfl (HIN.out _ _) ?_) | (go_at_call 31; (with_reducible refine (HAS.out _ HF1.out).mono ?_); rintro e w2 ⟨rfl, hf2⟩; have HF2 := Lib.hid (HF1.out.then0 hf2); have HB2 := Lib.hid (hf2.keep HB1.out (fun h => h)); have HR2 := Lib.hid (hf2.keep HR1.out (fun h => h)); clear hf2))
  refine wp_region_noPanic ?_
  refine wp_region_held_drew (S := (fun W : World => Bk W w.heap.size (b.map B).toArray 22 ∧ Bk W r (RC g (.slice a L c)) 32)) (by kernel_rfl) (⟨HB2.out, HR2.out⟩) (fun hHeld0 => ?_)
  refine tk0 (i := 0) (v := .pointer (some ⟨p, 0, none⟩)) rfl hHeld0 ?_
  simp only [Act.put, zA, zB, zC, zD, zE, zF]
  refine tk0 (i := 1) (v := .pointer (some ⟨r, 0, none⟩)) rfl hHeld0 ?_
  simp only [Act.put, zA, zB, zC, zD, zE, zF]
  refine tk0 (i := 2) (v := .pointer (some ⟨r, 0, none⟩)) rfl hHeld0 ?_
  simp only [Act.put, zA, zB, zC, zD, zE, zF]
  refine tk (i := 3) (v := .agg (RC g (.slice a L c))) rfl (yields_row (by kernel_rfl) 32 _ rfl (r) rfl 32 (RC g (.slice a L c)) (0, 0) _ (fun W h => h.2) Tryd.underlying32 rfl (HIN.out _ _)) hHeld0 ?_
  simp only [Act.put, zA, zB, zC, zD, zE, zF]
  refine tk0 (i := 4) (v := .int .i64 n) rfl hHeld0 ?_
  simp only [Act.put, zA, zB, zC, zD, zE, zF]
  refine tk (i := 6) (v := .agg (b.map B).toArray) rfl (yields_row (by kernel_rfl) 22 _ rfl (w.heap.size) rfl 22 (b.map B).toArray (0, 0) _ (fun W h => h.1) Tryd.underlying22 rfl HIB.out) hHeld0 ?_
  simp only [Act.put, zA, zB, zC, zD, zE, zF]
  change wpAnyH _ _ _ _ _ 3 #[true, true, true, true, true, false, true, false, false] _ _
  refine wpAnyH_ready (rs := [5]) (by kernel_rfl) (by simp) ?_
  refine AllReadyH.cons rfl (fun K hK => ?_) AllReadyH.nil
  simp only [zA, zB, zC]
  refine (if_pos (by kernel_rfl)).mpr ?_
  go_wp2_with fail
  refine (HAT.out _ (HRV.out.keep (Fr.drew HF2.out))).mono ?_
  rintro e wx0 ⟨rfl, hfx0⟩
  dsimp only
  have HF3 : Hid (Fr0 w wx0) := Lib.hid ((Fr.drew HF2.out).then0 hfx0)
  refine hK.out _ _ (⟨hfx0.keep (hHeld0).1 (fun h => h), hfx0.keep (hHeld0).2 (fun h => h)⟩) (fun hHeld1 => ?_)
  clear hK K hHeld0
  change wpAnyH _ _ _ _ _ 2 #[true, true, true, true, true, true, true, false, false] _ _
  refine wpAnyH_ready (rs := [7]) (by kernel_rfl) (by simp) ?_
  refine AllReadyH.cons rfl (fun K hK => ?_) AllReadyH.nil
  simp only [zA, zB, zC]
  refine (if_pos (by kernel_rfl)).mpr ?_
  go_wp2_with fail
  refine (HWR.out _ (HV.out.keep HF3.out)).mono ?_
  rintro e wx1 ⟨rfl, ⟨s4, n4, c4, m4, hv4⟩, hfx1⟩
  dsimp only
  have HV4 := Lib.hid hv4
  have HRV4 : Hid (RV wx1 m a c) := Lib.hid (RV.past (HRV.out.keep HF3.out) hfx1 (HV.out.keep HF3.out).blk)
  have HF4 : Hid (Fr (fun i => i = p) w wx1) := Lib.hid ((HF3.out.weaken (fun _ _ h => h.elim)).trans hfx1)
  have HW4 : Hid (wx1 = wx1) := Lib.hid rfl
  clear hv4
  refine hK.out _ _ (⟨hfx1.keep (hHeld1).1 (by omega), hfx1.keep (hHeld1).2 hrp⟩) (fun hHeld2 => ?_)
  clear hK K hHeld1
  refine tk0 (i := 8) (v := .int .i64 e1) rfl hHeld2 ?_
  simp only [Act.put, zA, zB, zC, zD, zE, zF]
  change wpAnyH _ _ _ _ _ 0 #[true, true, true, true, true, true, true, true, true] _ _
  refine wpAnyH_done (by kernel_rfl) ?_ _
  refine NoPanic.normal ?_
  have HEND := Lib.hid hHeld2
  clear hHeld2
  by_cases k2 : e1 = 2
  case neg =>
    have be1 : (e1 != 2) = true := by simpa using k2
    go_wp2
    go_ret
    obtain ⟨rfl, rfl, rfl⟩ := wr_parts (HX1.out k2)
    exact ⟨rfl, ⟨_, _, _, _, HV4.out⟩, ⟨a, c, by rw [HRR.out]; exact HEND.out.2, HRV4.out⟩, HF4.out.weaken (fun _ _ h => .inl h)⟩
  subst k2
  go_wp2
  generalize wx1 = w4 at *
  have HE4 := HEND
  clear HEND
  refine wp_region_noPanic ?_
  refine wp_region_held_drew (S := (fun W : World => Bk W w.heap.size (b.map B).toArray 22 ∧ Bk W r (RC g (.slice a L c)) 32)) (by kernel_rfl) (⟨HE4.out.1, HE4.out.2⟩) (fun hHeld0 => ?_)
  refine tk0 (i := 0) (v := .pointer (some ⟨p, 0, none⟩)) rfl hHeld0 ?_
  simp only [Act.put, zA, zB, zC, zD, zE, zF]
  refine tk0 (i := 1) (v := .pointer (some ⟨r, 0, none⟩)) rfl hHeld0 ?_
  simp only [Act.put, zA, zB, zC, zD, zE, zF]
  refine tk0 (i := 2) (v := .pointer (some ⟨r, 0, none⟩)) rfl hHeld0 ?_
  simp only [Act.put, zA, zB, zC, zD, zE, zF]
  refine tk (i := 3) (v := .agg (RC g (.slice a L c))) rfl (yields_row (by kernel_rfl) 32 _ rfl (r) rfl 32 (RC g (.slice a L c)) (0, 0) _ (fun W h => h.2) Tryd.underlying32 rfl (HIN.out _ _)) hHeld0 ?_
  simp only [Act.put, zA, zB, zC, zD, zE, zF]
  refine tk (i := 4) (v := .agg (b.map B).toArray) rfl (yields_row (by kernel_rfl) 22 _ rfl (w.heap.size) rfl 22 (b.map B).toArray (0, 0) _ (fun W h => h.1) Tryd.underlying22 rfl HIB.out) hHeld0 ?_
  simp only [Act.put, zA, zB, zC, zD, zE, zF]
  change wpAnyH _ _ _ _ _ 6 #[true, true, true, true, true, false, false, false, false, false, false] _ _
  refine wpAnyH_ready (rs := [5]) (by kernel_rfl) (by simp) ?_
  refine AllReadyH.cons rfl (fun K hK => ?_) AllReadyH.nil
  simp only [zA, zB, zC]
  refine (if_pos (by kernel_rfl)).mpr ?_
  go_wp2_with fail
  refine (HSR.out _ _ _ _ _ (HV4.out.keep (Fr.drew (Fr.refl _ _))) (HRV4.out.keep (Fr.drew (Fr.refl _ _)))).mono ?_
  rintro e wx0 ⟨rfl, ⟨s5, n5, c5, m5, hv5⟩, hfx0⟩
  dsimp only
  have HV5 := Lib.hid hv5
  have HRV5 : Hid (RV wx0 m a c) := Lib.hid (RV.past (HRV4.out.keep (Fr.drew (Fr.refl _ _))) hfx0 (HV4.out.keep (Fr.drew (Fr.refl _ _))).blk)
  have HF5 : Hid (Fr (fun i => i = p) w wx0) := Lib.hid ((Fr.drew HF4.out).trans hfx0)
  clear hv5
  refine hK.out _ _ (⟨hfx0.keep (hHeld0).1 (by omega), hfx0.keep (hHeld0).2 hrp⟩) (fun hHeld1 => ?_)
  clear hK K hHeld0
  refine tk0 (i := 6) (v := .tuple #[.int .i64 to, .int .i64 e3]) rfl hHeld1 ?_
  simp only [Act.put, zA, zB, zC, zD, zE, zF]
  refine tk (i := 7) (v := .int .i64 to) rfl (Or.inl ⟨by kernel_rfl, fun w hSw => by go_simp⟩) hHeld1 ?_
  simp only [Act.put, zA, zB, zC, zD, zE, zF]
  refine tk (i := 8) (v := .int .i64 e3) rfl (Or.inl ⟨by kernel_rfl, fun w hSw => by go_simp⟩) hHeld1 ?_
  simp only [Act.put, zA, zB, zC, zD, zE, zF]
  refine tk0 (i := 9) (v := .int .i64 to) rfl hHeld1 ?_
  simp only [Act.put, zA, zB, zC, zD, zE, zF]
  refine tk0 (i := 10) (v := .int .i64 e3) rfl hHeld1 ?_
  simp only [Act.put, zA, zB, zC, zD, zE, zF]
  change wpAnyH _ _ _ _ _ 0 #[true, true, true, true, true, true, true, true, true, true, true] _ _
  refine wpAnyH_done (by kernel_rfl) ?_ _
  refine NoPanic.normal ?_
  have HEND := Lib.hid hHeld1
  clear hHeld1
  by_cases k3 : e3 = 0
  case neg =>
    have be3 : (e3 != 0) = true := by simpa using k3
    go_wp2
    go_ret
    obtain ⟨rfl, rfl, rfl⟩ := wr_parts (HX2.out (by trivial) k3)
    exact ⟨rfl, ⟨_, _, _, _, HV5.out⟩, ⟨a, c, by rw [HRR.out]; exact HEND.out.2, HRV5.out⟩, HF5.out.weaken (fun _ _ h => .inl h)⟩
  subst k3
  go_wp2
  generalize wx0 = w5 at *
  have HE5 := HEND
  clear HEND HV4 HF4 HE4 HRV4
  have HF50 : Hid (Fr0 w5 w5.drew) := Lib.hid (Fr.drew (Fr.refl _ _))
  have c5a : Hid (∀ W, Bk W r (RC g (.slice a L c)) 32 → W.cell? ⟨r, 0, none⟩ = some (.int .i64 g)) := Lib.hid (fun W h => Bk.cell h 0)
  have c5b : Hid (∀ W, Bk W r (RC g (.slice a L c)) 32 → W.cell? ⟨r, 1, none⟩ = some (.slice a L c)) := Lib.hid (fun W h => Bk.cell h 1)
  have HCL : Hid (∀ W, Fr0 w5 W → Calls Tryd.prog 45 #[(.slice a L c)] W fun e w' => ∃ a' c', e = .returned (.slice a' L c') ∧ RowP w' W.heap.size (.slice a' L c') m.ps ∧ Fr0 W w') := Lib.hid (fun W f => clone_calls m.ps a L c W HLL.out (HRV5.out.rd.keep f) (by omega))
  refine wp_region_noPanic ?_
  refine wp_region_held_drew (S := (fun W : World => Bk W w.heap.size (b.map B).toArray 22 ∧ Bk W r (RC g (.slice a L c)) 32 ∧ Fr0 w5 W)) (by kernel_rfl) (⟨HE5.out.1, HE5.out.2, HF50.out⟩) (fun hHeld0 => ?_)
  generalize w5.drew = wd at *
  refine tk0 (i := 0) (v := .pointer (some ⟨r, 0, none⟩)) rfl hHeld0 ?_
  simp only [Act.put, zA, zB, zC, zD, zE, zF]
  refine tk0 (i := 1) (v := .pointer (some ⟨r, 0, none⟩)) rfl hHeld0 ?_
  simp only [Act.put, zA, zB, zC, zD, zE, zF]
  refine tk0 (i := 2) (v := .pointer (some ⟨r, 0, none⟩)) rfl hHeld0 ?_
  simp only [Act.put, zA, zB, zC, zD, zE, zF]
  refine tk (i := 3) (v := .int .i64 g) rfl (Or.inl ⟨by kernel_rfl, fun w hSw => by have hcl := (fun _ h => c5a.out _ h.2.1) w hSw; go_simp⟩) hHeld0 ?_
  simp only [Act.put, zA, zB, zC, zD, zE, zF]
  refine tk (i := 4) (v := .int .i64 (g + 1)) rfl (Or.inl ⟨by kernel_rfl, fun w hSw => by go_simp; rw [IntKind.wrap_i64]; omega⟩) hHeld0 ?_
  simp only [Act.put, zA, zB, zC, zD, zE, zF]
  refine tk0 (i := 5) (v := .pointer (some ⟨r, 0, none⟩)) rfl hHeld0 ?_
  simp only [Act.put, zA, zB, zC, zD, zE, zF]
  refine tk0 (i := 6) (v := .pointer (some ⟨r, 0, none⟩)) rfl hHeld0 ?_
  simp only [Act.put, zA, zB, zC, zD, zE, zF]
  refine tk0 (i := 7) (v := .pointer (some ⟨r, 1, none⟩)) rfl hHeld0 ?_
  simp only [Act.put, zA, zB, zC, zD, zE, zF]
  refine tk (i := 8) (v := (.slice a L c)) rfl (Or.inl ⟨by kernel_rfl, fun w hSw => by have hcl := (fun _ h => c5b.out _ h.2.1) w hSw; go_simp⟩) hHeld0 ?_
  simp only [Act.put, zA, zB, zC, zD, zE, zF]
  change wpAnyH _ _ _ _ _ 4 #[true, true, true, true, true, true, true, true, true, false, false, false, false] _ _
  refine wpAnyH_ready (rs := [9, 11]) (by kernel_rfl) (by simp) ?_
  refine AllReadyH.cons rfl (fun K hK => ?_) (AllReadyH.cons rfl (fun K hK => ?_) (AllReadyH.nil))
  · simp only [zA, zB, zC]
    refine (if_pos (by kernel_rfl)).mpr ?_
    have hk0 := hHeld0
    go_wp2_with fail
    refine (HCL.out _ (hHeld0).2.2).mono ?_
    rintro e wq ⟨a1, c1, rfl, hrow, hf9⟩
    dsimp only
    refine hK.out _ _ (⟨hf9.keep (hHeld0).1 (fun h => h), hf9.keep (hHeld0).2.1 (fun h => h), (hHeld0).2.2.then0 hf9⟩) (fun hHeld1 => ?_)
    clear hK K hHeld0
    have HRW : Hid (RowP wq w5.heap.size (.slice a1 L c1) m.ps) := Lib.hid (Row.less hrow hk0.2.2.size)
    clear hrow hk0 hf9
    refine tk (i := 10) (v := .agg (RC (g + 1) (.slice a1 L c1))) rfl (Or.inl ⟨by kernel_rfl, fun w hSw => GApp.run_build_op 32 _ rfl [(0, .int .i64 (g + 1)), (1, (.slice a1 L c1))] (by simp [Act.eval, Act.put]) _ (built_rv _ _ _ _)⟩) hHeld1 ?_
    simp only [Act.put, zA, zB, zC, zD, zE, zF]
    change wpAnyH _ _ _ _ _ 2 #[true, true, true, true, true, true, true, true, true, true, true, false, false] _ _
    refine wpAnyH_ready (rs := [11]) (by kernel_rfl) (by simp) ?_
    refine AllReadyH.cons rfl (fun K hK => ?_) AllReadyH.nil
    simp only [zA, zB, zC]
    refine (if_pos (by kernel_rfl)).mpr ?_
    have hk0 := hHeld1
    go_wp2_with fail
    refine hK.out _ _ (⟨Bk.alloc (hHeld1).1 _, Bk.alloc (hHeld1).2.1 _, Fr.alloc (hHeld1).2.2 _⟩) (fun hHeld2 => ?_)
    clear hK K hHeld1
    have HGA : Hid (Bk (wq.alloc (.cells RZ 32)) wq.heap.size RZ 32) := Lib.hid (Bk.new _ _)
    have HGE : Hid (w5.heap.size ≤ wq.heap.size) := Lib.hid (hk0.2.2.size)
    clear hk0
    have HNX : Hid (∀ q, ((.slice a1 L c1) : Value).ownBlock = some q → q ≠ wq.heap.size) := Lib.hid (fun q e => by have h1 := (HRW.out.blk q e).2; omega)
    replace HRW : Hid (RowP (wq.alloc (.cells RZ 32)) w5.heap.size (.slice a1 L c1) m.ps) := Lib.hid (HRW.out.keep0 (Fr.alloc (Fr.refl _ _) _))
    generalize (wq.alloc (.cells RZ 32)) = wa at *
    generalize wq.heap.size = gx at *
    change wpAnyH _ _ _ _ _ 1 #[true, true, true, true, true, true, true, true, true, true, true, true, false] _ _
    refine wpAnyH_ready (rs := [12]) (by kernel_rfl) (by simp) ?_
    refine AllReadyH.cons rfl (fun K hK => ?_) AllReadyH.nil
    simp only [zA, zB, zC]
    refine (if_pos (by kernel_rfl)).mpr ?_
    have hge := HGE.out
    have h5r := Bk.lt HE5.out.2
    have h5b := Bk.lt HE5.out.1
    refine wp_store_row 32 _ _ rfl gx (RC (g + 1) (.slice a1 L c1)) rfl rfl 32 RZ HGA.out (HIN.out _ _) rfl (RC_all _ _ _ _) ?_
    refine hK.out _ _ (⟨ArrKit.Bk.rowOther (hHeld2).1 _ (by omega), ArrKit.Bk.rowOther (hHeld2).2.1 _ (by omega), ArrKit.Fr.row (hHeld2).2.2 _ _ (.inl (by omega))⟩) (fun hHeld3 => ?_)
    clear hK K hHeld2
    have HGX6 : Hid (Bk (wa.setRow gx (RC (g + 1) (.slice a1 L c1))) gx (RC (g + 1) (.slice a1 L c1)) 32) := Lib.hid (ArrKit.Bk.row HGA.out _)
    have HRW6 : Hid (RowP (wa.setRow gx (RC (g + 1) (.slice a1 L c1))) w5.heap.size (.slice a1 L c1) m.ps) := Lib.hid (HRW.out.keep (Fr.row1 _ gx _) (fun q e => HNX.out q e))
    generalize wa.setRow gx (RC (g + 1) (.slice a1 L c1)) = w6 at *
    change wpAnyH _ _ _ _ _ 0 #[true, true, true, true, true, true, true, true, true, true, true, true, true] _ _
    refine wpAnyH_done (by kernel_rfl) ?_ _
    refine NoPanic.normal ?_
    have HEND := Lib.hid hHeld3
    clear hHeld3
    have hgxp : gx ≠ p := by have := HGE.out; have := Bk.lt HV5.out.blk; omega
    have h5w : w.heap.size < w5.heap.size := Bk.lt HE5.out.1
    have HR5L : Hid (r < w5.heap.size) := Lib.hid (Bk.lt HE5.out.2)
    have HP5L : Hid (p < w5.heap.size) := Lib.hid (Bk.lt HV5.out.blk)
    have HSN : Hid (¬ 1 = p ∧ ¬ 0 = p) := Lib.hid (by have := HSH.out.ne HV.out.blk (by show (4 : Nat) ≠ 8; decide) (by show (4 : Nat) ≠ 64; decide); exact ⟨fun e => this.1 e.symm, fun e => this.2 e.symm⟩)
    rcases HPL.out with ⟨hp, -⟩ | ⟨k, hk, hp, hkn, -⟩
    · obtain ⟨i1, hy0, hz0, hz1, hz2⟩ := info_parts infoPr
      have HJ : Hid (Tryd.prog.info? 98 = some i1 ∧ i1.zero = some (.agg PZ2) ∧ i1.size = 2 ∧ i1.bytes = 16) := Lib.hid ⟨hy0, hz0, hz1, hz2⟩
      have HLM : Hid (m.ps.length ≤ 20) := Lib.hid (by rw [HLL.out]; exact h20)
      have HNM := Lib.hid (HNQ.out hp)
      clear hy0 hz0 hz1 hz2
      have HNL : Hid ((m.ps ++ [(n, to)]).length = (L + 1)) := Lib.hid (by simp [HLL.out])
      have HRN : Hid (∀ a c, rval (nextM m n to) a c = RC (g + 1) (.slice a (L + 1) c)) := Lib.hid (fun a c => by
        rw [HNM.out]
        show RC (m.gen + 1) (.slice a (m.ps ++ [(n, to)]).length c) = _
        rw [HGG.out, HNL.out])
      have HRW0 : Hid (∀ W base a c, RowP W base (.slice a (L + 1) c) (m.ps ++ [(n, to)]) → RV W (nextM m n to) a c) := Lib.hid (fun W base a c h => by rw [HNM.out]; exact (Row.rv (g := 0) (m := (⟨m.gen + 1, m.ps ++ [(n, to)]⟩ : Rm)) h).2)
      have HKX : Hid (∀ W s1 n1 c1 k1 a c, Sh W → DAt W p d3 s1 n1 c1 k1 → RV W (nextM m n to) a c → Calls Tryd.prog 47 #[.pointer (some ⟨p, 0, none⟩), .agg (RC (g + 1) (.slice a (L + 1) c))] W fun e w' => e = .returned (.int .i64 e5) ∧ Now W w' p d4) := Lib.hid (fun W s1 n1 c1 k1 a c h1 h2 h3 => by have := HKE.out W s1 n1 c1 k1 a c h1 h2 h3; rwa [HRN.out] at this)
      subst hp
      go_wp2_with (first | ((with_reducible show wpList _ _ _ ({ dst := _, op := Op.load 32 _, type := _, pos := _, after := _, guard := _ } :: _) _ _); refine wpList_load_row_g (by rfl) 32 _ rfl r rfl 32 (RC g (.slice a L c)) (0, 0) _ HEND.out.2.1 Tryd.underlying32 rfl (HIN.out _ _) ?_) | (go_at_call 46; (with_reducible refine (HPC.out _ (HRV5.out.keep HEND.out.2.2)).mono ?_); rintro e w7 ⟨rfl, hf7⟩; have HGX7 := Lib.hid (hf7.keep HGX6.out (fun h => h)); have HRW7 := Lib.hid (HRW6.out.keep0 hf7); have HF57 := Lib.hid (HEND.out.2.2.then0 hf7); have HR7 := Lib.hid (hf7.keep HEND.out.2.1 (fun h => h)); have gx1 : w7.cell? ⟨gx, 1, none⟩ = some (.slice a1 L c1) := Bk.cell HGX7.out 1; clear hf7) | ((with_reducible show wpList _ _ _ ({ dst := _, op := Op.build 98 _, type := _, pos := _, after := _, guard := _ } :: _) _ _); refine build_ev rfl 98 _ rfl [(0, .int .i64 n), (1, .int .i64 to)] (by simp [Act.eval, Act.put]) (PR (n, to)).toArray (built_pr _ _) ?_) | ((with_reducible show wpList _ _ _ ({ dst := _, op := Op.buildSlice 30 1 _, type := _, pos := _, after := _, guard := _ } :: _) _ _); refine wpList_plain rfl fun K hK => ?_; refine GApp.wp_buildSlice_one 30 _ rfl 98 i1 _ 2 Tryd.underlying30 HJ.out.1 HJ.out.2.1 HJ.out.2.2.1 (by decide) (by decide) (PR (n, to)).toArray rfl rfl ?_; refine hK _ _ ?_) | (at_builtin; refine wpList_plain rfl fun K hK => ?_; obtain ⟨v8, w8, hr8, hw8, hf8, hn8⟩ := Row.append1 (P := Tryd.prog) (f := PR) (k := 2) (e := 98) (w7.alloc (.cells (PR (n, to)).toArray 98)) 30 30 i1 _ 16 w5.heap.size Tryd.underlying30 HJ.out.1 HJ.out.2.1 HJ.out.2.2.1 HJ.out.2.2.2 rfl (by decide) (.slice a1 L c1) m.ps (HRW7.out.keep0 (Fr.alloc (Fr.refl _ _) _)) (by have h1 := HF57.out.size; simp; omega) (fun x _ => PR_len x) w7.heap.size 1 (n, to) rfl (PR_one _) (Bk.new w7 _) (by have h1 := HLM.out; omega) (by have h1 := HLM.out; omega); obtain ⟨a8, c8, hv8, -⟩ := hw8.form; rw [HNL.out] at hv8; subst hv8; refine GApp.wp_append_run (.tmp 67) (.tmp 71) 30 (by rfl) _ _ _ (by rfl) (by rfl) hr8 ?_; refine hK _ _ ?_; have HGX8 := Lib.hid (hf8.keep (Bk.alloc HGX7.out _) (fun e => HNX.out _ e rfl)); have HR8 := Lib.hid (hf8.keep (Bk.alloc HR7.out _) (fun e => by have h1 := (HRW7.out.blk _ e).1; have h2 := HR5L.out; omega)); have HF58 : Hid (Fr0 w5 w8) := Lib.hid ((Fr.alloc HF57.out _).then hf8 (fun i hi e => by have h1 := (HRW7.out.blk _ e).1; omega)); have HNX8 : Hid (∀ q, ((.slice a8 (L + 1) c8) : Value).ownBlock = some q → q ≠ gx) := Lib.hid (fun q e => (hn8 q e).elim (fun h => HNX.out q h) (fun h => by have h2 := Bk.lt HGX7.out; simp at h; omega)); have HW8 := Lib.hid hw8; have gx8 : w8.cell? ⟨gx, 1, none⟩ = some (.slice a1 L c1) := Bk.cell HGX8.out 1; have fx8 := Bk.free HGX8.out 1; have HGX9 : Hid (Bk (w8.setCell ⟨gx, 1, none⟩ (.slice a8 (L + 1) c8)) gx (RC (g + 1) (.slice a8 (L + 1) c8)) 32) := Lib.hid (Bk.set HGX8.out 1 (.slice a8 (L + 1) c8)); have HR9 : Hid (Bk (w8.setCell ⟨gx, 1, none⟩ (.slice a8 (L + 1) c8)) r (RC g (.slice a L c)) 32) := Lib.hid (Bk.setOther HR8.out _ _ (by show r ≠ gx; have h1 := HGE.out; have h2 := HR5L.out; omega)); have HW9 : Hid (RowP (w8.setCell ⟨gx, 1, none⟩ (.slice a8 (L + 1) c8)) w5.heap.size (.slice a8 (L + 1) c8) (m.ps ++ [(n, to)])) := Lib.hid (HW8.out.keep (Fr.set1 w8 gx 1 (.slice a8 (L + 1) c8)) (fun q e => HNX8.out q e)); have HF59 : Hid (Fr0 w5 (w8.setCell ⟨gx, 1, none⟩ (.slice a8 (L + 1) c8))) := Lib.hid (Fr.set HF58.out _ _ (.inl (by show w5.heap.size ≤ gx; exact HGE.out))); clear hr8 hw8 hf8 hn8) | (go_at_call 8; (with_reducible refine (HFL.out _ _ _ _ _ (HV5.out.keep HF59.out)).mono ?_); rintro e w10 ⟨rfl, ⟨sA, nA, cA, mA, hvA⟩, hf10⟩; have HV10 := Lib.hid hvA; have HGX10 := Lib.hid (hf10.keep HGX9.out hgxp); have HR10 := Lib.hid (hf10.keep HR9.out hrp); have HW10 : Hid (RowP w10 w5.heap.size (.slice a8 (L + 1) c8) (m.ps ++ [(n, to)])) := Lib.hid (HW9.out.keep hf10 (fun q e => by have h1 := (HW9.out.blk q e).1; have h2 := HP5L.out; omega)); have HRV10 : Hid (RV w10 m a c) := Lib.hid (RV.past (HRV5.out.keep HF59.out) hf10 (HV5.out.keep HF59.out).blk); have HF10 : Hid (Fr (fun i => i = p) w w10) := Lib.hid ((HF5.out.trans (HF59.out.weaken (fun _ _ h => h.elim))).trans hf10); clear hvA hf10) | (go_at_call 47; (with_reducible refine (HKX.out _ _ _ _ _ a8 c8 (HSH.out.keep HF10.out HSN.out.1 HSN.out.2) HV10.out (HRW0.out _ _ _ _ HW10.out)).mono ?_); rintro e w11 ⟨rfl, ⟨sB, nB, cB, mB, hvB⟩, hf11⟩; have HV11 := Lib.hid hvB; have HGX11 := Lib.hid (hf11.keep HGX10.out hgxp); have HR11 := Lib.hid (hf11.keep HR10.out hrp); have HW11 : Hid (RowP w11 w5.heap.size (.slice a8 (L + 1) c8) (m.ps ++ [(n, to)])) := Lib.hid (HW10.out.keep hf11 (fun q e => by have h1 := (HW10.out.blk q e).1; have h2 := HP5L.out; omega)); have HRV11 : Hid (RV w11 m a c) := Lib.hid (RV.past HRV10.out hf11 HV10.out.blk); have HF11 : Hid (Fr (fun i => i = p) w w11) := Lib.hid (HF10.out.trans hf11); clear hvB hf11) | ((with_reducible show wpList _ _ _ ({ dst := _, op := Op.load 32 _, type := _, pos := _, after := _, guard := _ } :: _) _ _); refine wpList_load_row_g (by rfl) 32 _ rfl gx rfl 32 (RC (g + 1) (.slice a8 (L + 1) c8)) (0, 0) _ HGX11.out Tryd.underlying32 rfl (HIN.out _ _) ?_) | ((with_reducible show wpList _ _ _ ({ dst := _, op := Op.load 32 _, type := _, pos := _, after := _, guard := _ } :: _) _ _); refine wpList_load_row_g (by rfl) 32 _ rfl gx rfl 32 (RC (g + 1) (.slice a8 (L + 1) c8)) (0, 0) _ HGX10.out Tryd.underlying32 rfl (HIN.out _ _) ?_) | ((with_reducible show wpList _ _ _ ({ dst := _, op := Op.store 32 _ _, type := _, pos := _, after := _, guard := _ } :: _) _ _); refine wpList_store_row rfl 32 _ _ rfl r (RC (g + 1) (.slice a8 (L + 1) c8)) rfl rfl 32 (RC g (.slice a L c)) HR11.out (HIN.out _ _) rfl (RC_all _ _ _ _) ?_))
      all_goals go_ret
      all_goals (try simp only [bne_iff_ne, ne_eq, beq_iff_eq, bne_eq_false_iff_eq, beq_eq_false_iff_ne] at *)
      all_goals first | (obtain ⟨rfl, rfl, rfl⟩ := wr_parts (HX4.out (by trivial) (by trivial) (by omega) (by omega)); exact ⟨rfl, ⟨_, _, _, _, HV10.out⟩, ⟨a, c, by rw [HRR.out]; exact HR10.out, HRV10.out⟩, HF10.out.weaken (fun _ _ h => .inl h)⟩) | (obtain ⟨rfl, rfl, rfl⟩ := wr_parts (HX5.out (by trivial) (by trivial) (by omega) (by omega) (by omega)); exact ⟨rfl, ⟨_, _, _, _, HV11.out⟩, ⟨a, c, by rw [HRR.out]; exact HR11.out, HRV11.out⟩, HF11.out.weaken (fun _ _ h => .inl h)⟩) | (obtain ⟨rfl, rfl, rfl⟩ := wr_parts (HX6.out (by trivial) (by trivial) (by omega) (by omega) (by omega)); have h12 : Fr (fun i => i = r) w11 (w11.setRow r (RC (g + 1) (.slice a8 (L + 1) c8))) := Fr.row1 _ r _; exact ⟨rfl, ⟨_, _, _, _, DAt_past HV11.out HDO.out h12 HR11.out (rc_no _ _ _ _) (fun e => hrp e.symm)⟩, ⟨a8, c8, by rw [HRN.out]; exact ArrKit.Bk.row HR11.out _, HRW0.out _ _ _ _ (HW11.out.keep h12 (fun q e => by have h1 := (HW11.out.blk q e).1; have h2 := HR5L.out; omega))⟩, Fr.then (HF11.out.weaken (fun _ _ h => .inl h)) h12 (fun i _ e => .inr e)⟩) | (obtain ⟨rfl, rfl, rfl⟩ := wr_parts (HX3.out (by trivial) (by trivial) (by omega) (by omega)); exact ⟨rfl, ⟨_, _, _, _, HV5.out.keep HF57.out⟩, ⟨a, c, by rw [HRR.out]; exact HR7.out, HRV5.out.keep HF57.out⟩, (HF5.out.then0 HF57.out).weaken (fun _ _ h => .inl h)⟩)
    · obtain ⟨g1, c2, cur, ev, hb1, ho1⟩ : ∃ g1 c2 cur, (.slice a1 L c1 : Value) = .slice (some ⟨g1, 0, none⟩) m.ps.length c2 ∧ w5.heap.size ≤ g1 ∧ OwnP w6 g1 c2 cur m.ps := by
        rcases HRW6.out with ⟨-, e⟩ | h
        · rw [e] at hk; cases hk
        · exact h
      injection ev with ev1 ev2 ev3
      subst ev1 ev3
      have HKN : Hid (∃ h : k < m.ps.length, m.ps[k].1 = n) := Lib.hid ⟨hk, hkn⟩
      have hkL : k < L := by rw [← HLL.out]; exact hk
      have HG1 : Hid (w5.heap.size ≤ g1 ∧ g1 ≠ gx) := Lib.hid ⟨hb1, HNX.out g1 rfl⟩
      have HO6 := Lib.hid ho1
      obtain ⟨k2, hk2⟩ : ∃ k2, cur[k * 2 + 1]? = some (.int .i64 k2) := ⟨_, ho1.here k hk 1 _ rfl⟩
      have HK2 := Lib.hid hk2
      have HNM := Lib.hid (HNP.out k hp)
      clear hb1 ho1 ev2 hk2 hk hkn
      have HNL : Hid ((m.ps.set k (n, to)).length = L) := Lib.hid (by simp [HLL.out])
      have HRN : Hid (∀ a c, rval (nextM m n to) a c = RC (g + 1) (.slice a L c)) := Lib.hid (fun a c => by
        rw [HNM.out]
        show RC (m.gen + 1) (.slice a (m.ps.set k (n, to)).length c) = _
        rw [HGG.out, HNL.out])
      have HRW0 : Hid (∀ W base a c, RowP W base (.slice a L c) (m.ps.set k (n, to)) → RV W (nextM m n to) a c) := Lib.hid (fun W base a c h => by rw [HNM.out]; exact (Row.rv (g := 0) (m := (⟨m.gen + 1, m.ps.set k (n, to)⟩ : Rm)) h).2)
      have HKX : Hid (∀ W s1 n1 c1 k1 a c, Sh W → DAt W p d3 s1 n1 c1 k1 → RV W (nextM m n to) a c → Calls Tryd.prog 47 #[.pointer (some ⟨p, 0, none⟩), .agg (RC (g + 1) (.slice a L c))] W fun e w' => e = .returned (.int .i64 e5) ∧ Now W w' p d4) := Lib.hid (fun W s1 n1 c1 k1 a c h1 h2 h3 => by have := HKE.out W s1 n1 c1 k1 a c h1 h2 h3; rwa [HRN.out] at this)
      subst hp
      go_wp2_with (first | ((with_reducible show wpList _ _ _ ({ dst := _, op := Op.load 32 _, type := _, pos := _, after := _, guard := _ } :: _) _ _); refine wpList_load_row_g (by rfl) 32 _ rfl r rfl 32 (RC g (.slice a L c)) (0, 0) _ HEND.out.2.1 Tryd.underlying32 rfl (HIN.out _ _) ?_) | (go_at_call 46; (with_reducible refine (HPC.out _ (HRV5.out.keep HEND.out.2.2)).mono ?_); rintro e w7 ⟨rfl, hf7⟩; have HGX7 := Lib.hid (hf7.keep HGX6.out (fun h => h)); have HRW7 := Lib.hid (HRW6.out.keep0 hf7); have HF57 := Lib.hid (HEND.out.2.2.then0 hf7); have HR7 := Lib.hid (hf7.keep HEND.out.2.1 (fun h => h)); have gx1 : w7.cell? ⟨gx, 1, none⟩ = some (.slice (some ⟨g1, 0, none⟩) L c1) := Bk.cell HGX7.out 1; have HO7 := Lib.hid (OwnG.keep HO6.out hf7 (fun h => h)); have g7 : w7.cell? ⟨g1, k * 2 + 1, none⟩ = some (.int .i64 k2) := (Bk.cell HO7.out.blk _).trans HK2.out; have fx7 := Bk.free HO7.out.blk (k * 2 + 1); have HO9 : Hid (OwnP (w7.setCell ⟨g1, k * 2 + 1, none⟩ (.int .i64 to)) g1 c1 _ (m.ps.set k (n, to))) := Lib.hid (own_to HO7.out HKN.out.1 HKN.out.2 to); have HW9 : Hid (RowP (w7.setCell ⟨g1, k * 2 + 1, none⟩ (.int .i64 to)) w5.heap.size (.slice (some ⟨g1, 0, none⟩) L c1) (m.ps.set k (n, to))) := Lib.hid (.inr ⟨g1, c1, _, by rw [HNL.out], HG1.out.1, HO9.out⟩); have HGX9 : Hid (Bk (w7.setCell ⟨g1, k * 2 + 1, none⟩ (.int .i64 to)) gx (RC (g + 1) (.slice (some ⟨g1, 0, none⟩) L c1)) 32) := Lib.hid (Bk.setOther HGX7.out _ _ (by show gx ≠ g1; exact fun e => HG1.out.2 e.symm)); have HR9 : Hid (Bk (w7.setCell ⟨g1, k * 2 + 1, none⟩ (.int .i64 to)) r (RC g (.slice a L c)) 32) := Lib.hid (Bk.setOther HR7.out _ _ (by show r ≠ g1; have h1 := HG1.out.1; have h2 := HR5L.out; omega)); have HF59 : Hid (Fr0 w5 (w7.setCell ⟨g1, k * 2 + 1, none⟩ (.int .i64 to))) := Lib.hid (Fr.set HF57.out _ _ (.inl (by show w5.heap.size ≤ g1; exact HG1.out.1))); clear hf7) | (go_at_call 8; (with_reducible refine (HFL.out _ _ _ _ _ (HV5.out.keep HF59.out)).mono ?_); rintro e w10 ⟨rfl, ⟨sA, nA, cA, mA, hvA⟩, hf10⟩; have HV10 := Lib.hid hvA; have HGX10 := Lib.hid (hf10.keep HGX9.out hgxp); have HR10 := Lib.hid (hf10.keep HR9.out hrp); have HW10 : Hid (RowP w10 w5.heap.size (.slice (some ⟨g1, 0, none⟩) L c1) (m.ps.set k (n, to))) := Lib.hid (HW9.out.keep hf10 (fun q e => by have h1 := (HW9.out.blk q e).1; have h2 := HP5L.out; omega)); have HRV10 : Hid (RV w10 m a c) := Lib.hid (RV.past (HRV5.out.keep HF59.out) hf10 (HV5.out.keep HF59.out).blk); have HF10 : Hid (Fr (fun i => i = p) w w10) := Lib.hid ((HF5.out.trans (HF59.out.weaken (fun _ _ h => h.elim))).trans hf10); clear hvA hf10) | (go_at_call 47; (with_reducible refine (HKX.out _ _ _ _ _ (some ⟨g1, 0, none⟩) c1 (HSH.out.keep HF10.out HSN.out.1 HSN.out.2) HV10.out (HRW0.out _ _ _ _ HW10.out)).mono ?_); rintro e w11 ⟨rfl, ⟨sB, nB, cB, mB, hvB⟩, hf11⟩; have HV11 := Lib.hid hvB; have HGX11 := Lib.hid (hf11.keep HGX10.out hgxp); have HR11 := Lib.hid (hf11.keep HR10.out hrp); have HW11 : Hid (RowP w11 w5.heap.size (.slice (some ⟨g1, 0, none⟩) L c1) (m.ps.set k (n, to))) := Lib.hid (HW10.out.keep hf11 (fun q e => by have h1 := (HW10.out.blk q e).1; have h2 := HP5L.out; omega)); have HRV11 : Hid (RV w11 m a c) := Lib.hid (RV.past HRV10.out hf11 HV10.out.blk); have HF11 : Hid (Fr (fun i => i = p) w w11) := Lib.hid (HF10.out.trans hf11); clear hvB hf11) | ((with_reducible show wpList _ _ _ ({ dst := _, op := Op.load 32 _, type := _, pos := _, after := _, guard := _ } :: _) _ _); refine wpList_load_row_g (by rfl) 32 _ rfl gx rfl 32 (RC (g + 1) (.slice (some ⟨g1, 0, none⟩) L c1)) (0, 0) _ HGX11.out Tryd.underlying32 rfl (HIN.out _ _) ?_) | ((with_reducible show wpList _ _ _ ({ dst := _, op := Op.load 32 _, type := _, pos := _, after := _, guard := _ } :: _) _ _); refine wpList_load_row_g (by rfl) 32 _ rfl gx rfl 32 (RC (g + 1) (.slice (some ⟨g1, 0, none⟩) L c1)) (0, 0) _ HGX10.out Tryd.underlying32 rfl (HIN.out _ _) ?_) | ((with_reducible show wpList _ _ _ ({ dst := _, op := Op.store 32 _ _, type := _, pos := _, after := _, guard := _ } :: _) _ _); refine wpList_store_row rfl 32 _ _ rfl r (RC (g + 1) (.slice (some ⟨g1, 0, none⟩) L c1)) rfl rfl 32 (RC g (.slice a L c)) HR11.out (HIN.out _ _) rfl (RC_all _ _ _ _) ?_))
      all_goals go_ret
      all_goals (try simp only [bne_iff_ne, ne_eq, beq_iff_eq, bne_eq_false_iff_eq, beq_eq_false_iff_ne] at *)
      all_goals first | (obtain ⟨rfl, rfl, rfl⟩ := wr_parts (HX4.out (by trivial) (by trivial) (by omega) (by omega)); exact ⟨rfl, ⟨_, _, _, _, HV10.out⟩, ⟨a, c, by rw [HRR.out]; exact HR10.out, HRV10.out⟩, HF10.out.weaken (fun _ _ h => .inl h)⟩) | (obtain ⟨rfl, rfl, rfl⟩ := wr_parts (HX5.out (by trivial) (by trivial) (by omega) (by omega) (by omega)); exact ⟨rfl, ⟨_, _, _, _, HV11.out⟩, ⟨a, c, by rw [HRR.out]; exact HR11.out, HRV11.out⟩, HF11.out.weaken (fun _ _ h => .inl h)⟩) | (obtain ⟨rfl, rfl, rfl⟩ := wr_parts (HX6.out (by trivial) (by trivial) (by omega) (by omega) (by omega)); have h12 : Fr (fun i => i = r) w11 (w11.setRow r (RC (g + 1) (.slice (some ⟨g1, 0, none⟩) L c1))) := Fr.row1 _ r _; exact ⟨rfl, ⟨_, _, _, _, DAt_past HV11.out HDO.out h12 HR11.out (rc_no _ _ _ _) (fun e => hrp e.symm)⟩, ⟨(some ⟨g1, 0, none⟩), c1, by rw [HRN.out]; exact ArrKit.Bk.row HR11.out _, HRW0.out _ _ _ _ (HW11.out.keep h12 (fun q e => by have h1 := (HW11.out.blk q e).1; have h2 := HR5L.out; omega))⟩, Fr.then (HF11.out.weaken (fun _ _ h => .inl h)) h12 (fun i _ e => .inr e)⟩)
  · simp only [zA, zB, zC]
    refine (if_pos (by kernel_rfl)).mpr ?_
    have hk0 := hHeld0
    go_wp2_with fail
    refine hK.out _ _ (⟨Bk.alloc (hHeld0).1 _, Bk.alloc (hHeld0).2.1 _, Fr.alloc (hHeld0).2.2 _⟩) (fun hHeld1 => ?_)
    clear hK K hHeld0
    have HGA : Hid (Bk (wd.alloc (.cells RZ 32)) wd.heap.size RZ 32) := Lib.hid (Bk.new _ _)
    have HGE : Hid (w5.heap.size ≤ wd.heap.size) := Lib.hid (hk0.2.2.size)
    clear hk0
    generalize (wd.alloc (.cells RZ 32)) = wa at *
    generalize wd.heap.size = gx at *
    change wpAnyH _ _ _ _ _ 3 #[true, true, true, true, true, true, true, true, true, false, false, true, false] _ _
    refine wpAnyH_ready (rs := [9]) (by kernel_rfl) (by simp) ?_
    refine AllReadyH.cons rfl (fun K hK => ?_) AllReadyH.nil
    simp only [zA, zB, zC]
    refine (if_pos (by kernel_rfl)).mpr ?_
    have hk0 := hHeld1
    go_wp2_with fail
    refine (HCL.out _ (hHeld1).2.2).mono ?_
    rintro e wq ⟨a1, c1, rfl, hrow, hf9⟩
    dsimp only
    refine hK.out _ _ (⟨hf9.keep (hHeld1).1 (fun h => h), hf9.keep (hHeld1).2.1 (fun h => h), (hHeld1).2.2.then0 hf9⟩) (fun hHeld2 => ?_)
    clear hK K hHeld1
    have HRW : Hid (RowP wq w5.heap.size (.slice a1 L c1) m.ps) := Lib.hid (Row.less hrow hk0.2.2.size)
    have HNX : Hid (∀ q, ((.slice a1 L c1) : Value).ownBlock = some q → q ≠ gx) := Lib.hid (fun q e => by have h1 := (hrow.blk q e).1; have h2 := Bk.lt HGA.out; omega)
    have HGA' := Lib.hid (hf9.keep HGA.out (fun h => h))
    clear HGA
    have HGA := HGA'
    clear HGA' hrow hk0 hf9
    refine tk (i := 10) (v := .agg (RC (g + 1) (.slice a1 L c1))) rfl (Or.inl ⟨by kernel_rfl, fun w hSw => GApp.run_build_op 32 _ rfl [(0, .int .i64 (g + 1)), (1, (.slice a1 L c1))] (by simp [Act.eval, Act.put]) _ (built_rv _ _ _ _)⟩) hHeld2 ?_
    simp only [Act.put, zA, zB, zC, zD, zE, zF]
    change wpAnyH _ _ _ _ _ 1 #[true, true, true, true, true, true, true, true, true, true, true, true, false] _ _
    refine wpAnyH_ready (rs := [12]) (by kernel_rfl) (by simp) ?_
    refine AllReadyH.cons rfl (fun K hK => ?_) AllReadyH.nil
    simp only [zA, zB, zC]
    refine (if_pos (by kernel_rfl)).mpr ?_
    have hge := HGE.out
    have h5r := Bk.lt HE5.out.2
    have h5b := Bk.lt HE5.out.1
    refine wp_store_row 32 _ _ rfl gx (RC (g + 1) (.slice a1 L c1)) rfl rfl 32 RZ HGA.out (HIN.out _ _) rfl (RC_all _ _ _ _) ?_
    refine hK.out _ _ (⟨ArrKit.Bk.rowOther (hHeld2).1 _ (by omega), ArrKit.Bk.rowOther (hHeld2).2.1 _ (by omega), ArrKit.Fr.row (hHeld2).2.2 _ _ (.inl (by omega))⟩) (fun hHeld3 => ?_)
    clear hK K hHeld2
    have HGX6 : Hid (Bk (wq.setRow gx (RC (g + 1) (.slice a1 L c1))) gx (RC (g + 1) (.slice a1 L c1)) 32) := Lib.hid (ArrKit.Bk.row HGA.out _)
    have HRW6 : Hid (RowP (wq.setRow gx (RC (g + 1) (.slice a1 L c1))) w5.heap.size (.slice a1 L c1) m.ps) := Lib.hid (HRW.out.keep (Fr.row1 _ gx _) (fun q e => HNX.out q e))
    generalize wq.setRow gx (RC (g + 1) (.slice a1 L c1)) = w6 at *
    change wpAnyH _ _ _ _ _ 0 #[true, true, true, true, true, true, true, true, true, true, true, true, true] _ _
    refine wpAnyH_done (by kernel_rfl) ?_ _
    refine NoPanic.normal ?_
    have HEND := Lib.hid hHeld3
    clear hHeld3
    have hgxp : gx ≠ p := by have := HGE.out; have := Bk.lt HV5.out.blk; omega
    have h5w : w.heap.size < w5.heap.size := Bk.lt HE5.out.1
    have HR5L : Hid (r < w5.heap.size) := Lib.hid (Bk.lt HE5.out.2)
    have HP5L : Hid (p < w5.heap.size) := Lib.hid (Bk.lt HV5.out.blk)
    have HSN : Hid (¬ 1 = p ∧ ¬ 0 = p) := Lib.hid (by have := HSH.out.ne HV.out.blk (by show (4 : Nat) ≠ 8; decide) (by show (4 : Nat) ≠ 64; decide); exact ⟨fun e => this.1 e.symm, fun e => this.2 e.symm⟩)
    rcases HPL.out with ⟨hp, -⟩ | ⟨k, hk, hp, hkn, -⟩
    · obtain ⟨i1, hy0, hz0, hz1, hz2⟩ := info_parts infoPr
      have HJ : Hid (Tryd.prog.info? 98 = some i1 ∧ i1.zero = some (.agg PZ2) ∧ i1.size = 2 ∧ i1.bytes = 16) := Lib.hid ⟨hy0, hz0, hz1, hz2⟩
      have HLM : Hid (m.ps.length ≤ 20) := Lib.hid (by rw [HLL.out]; exact h20)
      have HNM := Lib.hid (HNQ.out hp)
      clear hy0 hz0 hz1 hz2
      have HNL : Hid ((m.ps ++ [(n, to)]).length = (L + 1)) := Lib.hid (by simp [HLL.out])
      have HRN : Hid (∀ a c, rval (nextM m n to) a c = RC (g + 1) (.slice a (L + 1) c)) := Lib.hid (fun a c => by
        rw [HNM.out]
        show RC (m.gen + 1) (.slice a (m.ps ++ [(n, to)]).length c) = _
        rw [HGG.out, HNL.out])
      have HRW0 : Hid (∀ W base a c, RowP W base (.slice a (L + 1) c) (m.ps ++ [(n, to)]) → RV W (nextM m n to) a c) := Lib.hid (fun W base a c h => by rw [HNM.out]; exact (Row.rv (g := 0) (m := (⟨m.gen + 1, m.ps ++ [(n, to)]⟩ : Rm)) h).2)
      have HKX : Hid (∀ W s1 n1 c1 k1 a c, Sh W → DAt W p d3 s1 n1 c1 k1 → RV W (nextM m n to) a c → Calls Tryd.prog 47 #[.pointer (some ⟨p, 0, none⟩), .agg (RC (g + 1) (.slice a (L + 1) c))] W fun e w' => e = .returned (.int .i64 e5) ∧ Now W w' p d4) := Lib.hid (fun W s1 n1 c1 k1 a c h1 h2 h3 => by have := HKE.out W s1 n1 c1 k1 a c h1 h2 h3; rwa [HRN.out] at this)
      subst hp
      go_wp2_with (first | ((with_reducible show wpList _ _ _ ({ dst := _, op := Op.load 32 _, type := _, pos := _, after := _, guard := _ } :: _) _ _); refine wpList_load_row_g (by rfl) 32 _ rfl r rfl 32 (RC g (.slice a L c)) (0, 0) _ HEND.out.2.1 Tryd.underlying32 rfl (HIN.out _ _) ?_) | (go_at_call 46; (with_reducible refine (HPC.out _ (HRV5.out.keep HEND.out.2.2)).mono ?_); rintro e w7 ⟨rfl, hf7⟩; have HGX7 := Lib.hid (hf7.keep HGX6.out (fun h => h)); have HRW7 := Lib.hid (HRW6.out.keep0 hf7); have HF57 := Lib.hid (HEND.out.2.2.then0 hf7); have HR7 := Lib.hid (hf7.keep HEND.out.2.1 (fun h => h)); have gx1 : w7.cell? ⟨gx, 1, none⟩ = some (.slice a1 L c1) := Bk.cell HGX7.out 1; clear hf7) | ((with_reducible show wpList _ _ _ ({ dst := _, op := Op.build 98 _, type := _, pos := _, after := _, guard := _ } :: _) _ _); refine build_ev rfl 98 _ rfl [(0, .int .i64 n), (1, .int .i64 to)] (by simp [Act.eval, Act.put]) (PR (n, to)).toArray (built_pr _ _) ?_) | ((with_reducible show wpList _ _ _ ({ dst := _, op := Op.buildSlice 30 1 _, type := _, pos := _, after := _, guard := _ } :: _) _ _); refine wpList_plain rfl fun K hK => ?_; refine GApp.wp_buildSlice_one 30 _ rfl 98 i1 _ 2 Tryd.underlying30 HJ.out.1 HJ.out.2.1 HJ.out.2.2.1 (by decide) (by decide) (PR (n, to)).toArray rfl rfl ?_; refine hK _ _ ?_) | (at_builtin; refine wpList_plain rfl fun K hK => ?_; obtain ⟨v8, w8, hr8, hw8, hf8, hn8⟩ := Row.append1 (P := Tryd.prog) (f := PR) (k := 2) (e := 98) (w7.alloc (.cells (PR (n, to)).toArray 98)) 30 30 i1 _ 16 w5.heap.size Tryd.underlying30 HJ.out.1 HJ.out.2.1 HJ.out.2.2.1 HJ.out.2.2.2 rfl (by decide) (.slice a1 L c1) m.ps (HRW7.out.keep0 (Fr.alloc (Fr.refl _ _) _)) (by have h1 := HF57.out.size; simp; omega) (fun x _ => PR_len x) w7.heap.size 1 (n, to) rfl (PR_one _) (Bk.new w7 _) (by have h1 := HLM.out; omega) (by have h1 := HLM.out; omega); obtain ⟨a8, c8, hv8, -⟩ := hw8.form; rw [HNL.out] at hv8; subst hv8; refine GApp.wp_append_run (.tmp 67) (.tmp 71) 30 (by rfl) _ _ _ (by rfl) (by rfl) hr8 ?_; refine hK _ _ ?_; have HGX8 := Lib.hid (hf8.keep (Bk.alloc HGX7.out _) (fun e => HNX.out _ e rfl)); have HR8 := Lib.hid (hf8.keep (Bk.alloc HR7.out _) (fun e => by have h1 := (HRW7.out.blk _ e).1; have h2 := HR5L.out; omega)); have HF58 : Hid (Fr0 w5 w8) := Lib.hid ((Fr.alloc HF57.out _).then hf8 (fun i hi e => by have h1 := (HRW7.out.blk _ e).1; omega)); have HNX8 : Hid (∀ q, ((.slice a8 (L + 1) c8) : Value).ownBlock = some q → q ≠ gx) := Lib.hid (fun q e => (hn8 q e).elim (fun h => HNX.out q h) (fun h => by have h2 := Bk.lt HGX7.out; simp at h; omega)); have HW8 := Lib.hid hw8; have gx8 : w8.cell? ⟨gx, 1, none⟩ = some (.slice a1 L c1) := Bk.cell HGX8.out 1; have fx8 := Bk.free HGX8.out 1; have HGX9 : Hid (Bk (w8.setCell ⟨gx, 1, none⟩ (.slice a8 (L + 1) c8)) gx (RC (g + 1) (.slice a8 (L + 1) c8)) 32) := Lib.hid (Bk.set HGX8.out 1 (.slice a8 (L + 1) c8)); have HR9 : Hid (Bk (w8.setCell ⟨gx, 1, none⟩ (.slice a8 (L + 1) c8)) r (RC g (.slice a L c)) 32) := Lib.hid (Bk.setOther HR8.out _ _ (by show r ≠ gx; have h1 := HGE.out; have h2 := HR5L.out; omega)); have HW9 : Hid (RowP (w8.setCell ⟨gx, 1, none⟩ (.slice a8 (L + 1) c8)) w5.heap.size (.slice a8 (L + 1) c8) (m.ps ++ [(n, to)])) := Lib.hid (HW8.out.keep (Fr.set1 w8 gx 1 (.slice a8 (L + 1) c8)) (fun q e => HNX8.out q e)); have HF59 : Hid (Fr0 w5 (w8.setCell ⟨gx, 1, none⟩ (.slice a8 (L + 1) c8))) := Lib.hid (Fr.set HF58.out _ _ (.inl (by show w5.heap.size ≤ gx; exact HGE.out))); clear hr8 hw8 hf8 hn8) | (go_at_call 8; (with_reducible refine (HFL.out _ _ _ _ _ (HV5.out.keep HF59.out)).mono ?_); rintro e w10 ⟨rfl, ⟨sA, nA, cA, mA, hvA⟩, hf10⟩; have HV10 := Lib.hid hvA; have HGX10 := Lib.hid (hf10.keep HGX9.out hgxp); have HR10 := Lib.hid (hf10.keep HR9.out hrp); have HW10 : Hid (RowP w10 w5.heap.size (.slice a8 (L + 1) c8) (m.ps ++ [(n, to)])) := Lib.hid (HW9.out.keep hf10 (fun q e => by have h1 := (HW9.out.blk q e).1; have h2 := HP5L.out; omega)); have HRV10 : Hid (RV w10 m a c) := Lib.hid (RV.past (HRV5.out.keep HF59.out) hf10 (HV5.out.keep HF59.out).blk); have HF10 : Hid (Fr (fun i => i = p) w w10) := Lib.hid ((HF5.out.trans (HF59.out.weaken (fun _ _ h => h.elim))).trans hf10); clear hvA hf10) | (go_at_call 47; (with_reducible refine (HKX.out _ _ _ _ _ a8 c8 (HSH.out.keep HF10.out HSN.out.1 HSN.out.2) HV10.out (HRW0.out _ _ _ _ HW10.out)).mono ?_); rintro e w11 ⟨rfl, ⟨sB, nB, cB, mB, hvB⟩, hf11⟩; have HV11 := Lib.hid hvB; have HGX11 := Lib.hid (hf11.keep HGX10.out hgxp); have HR11 := Lib.hid (hf11.keep HR10.out hrp); have HW11 : Hid (RowP w11 w5.heap.size (.slice a8 (L + 1) c8) (m.ps ++ [(n, to)])) := Lib.hid (HW10.out.keep hf11 (fun q e => by have h1 := (HW10.out.blk q e).1; have h2 := HP5L.out; omega)); have HRV11 : Hid (RV w11 m a c) := Lib.hid (RV.past HRV10.out hf11 HV10.out.blk); have HF11 : Hid (Fr (fun i => i = p) w w11) := Lib.hid (HF10.out.trans hf11); clear hvB hf11) | ((with_reducible show wpList _ _ _ ({ dst := _, op := Op.load 32 _, type := _, pos := _, after := _, guard := _ } :: _) _ _); refine wpList_load_row_g (by rfl) 32 _ rfl gx rfl 32 (RC (g + 1) (.slice a8 (L + 1) c8)) (0, 0) _ HGX11.out Tryd.underlying32 rfl (HIN.out _ _) ?_) | ((with_reducible show wpList _ _ _ ({ dst := _, op := Op.load 32 _, type := _, pos := _, after := _, guard := _ } :: _) _ _); refine wpList_load_row_g (by rfl) 32 _ rfl gx rfl 32 (RC (g + 1) (.slice a8 (L + 1) c8)) (0, 0) _ HGX10.out Tryd.underlying32 rfl (HIN.out _ _) ?_) | ((with_reducible show wpList _ _ _ ({ dst := _, op := Op.store 32 _ _, type := _, pos := _, after := _, guard := _ } :: _) _ _); refine wpList_store_row rfl 32 _ _ rfl r (RC (g + 1) (.slice a8 (L + 1) c8)) rfl rfl 32 (RC g (.slice a L c)) HR11.out (HIN.out _ _) rfl (RC_all _ _ _ _) ?_))
      all_goals go_ret
      all_goals (try simp only [bne_iff_ne, ne_eq, beq_iff_eq, bne_eq_false_iff_eq, beq_eq_false_iff_ne] at *)
      all_goals first | (obtain ⟨rfl, rfl, rfl⟩ := wr_parts (HX4.out (by trivial) (by trivial) (by omega) (by omega)); exact ⟨rfl, ⟨_, _, _, _, HV10.out⟩, ⟨a, c, by rw [HRR.out]; exact HR10.out, HRV10.out⟩, HF10.out.weaken (fun _ _ h => .inl h)⟩) | (obtain ⟨rfl, rfl, rfl⟩ := wr_parts (HX5.out (by trivial) (by trivial) (by omega) (by omega) (by omega)); exact ⟨rfl, ⟨_, _, _, _, HV11.out⟩, ⟨a, c, by rw [HRR.out]; exact HR11.out, HRV11.out⟩, HF11.out.weaken (fun _ _ h => .inl h)⟩) | (obtain ⟨rfl, rfl, rfl⟩ := wr_parts (HX6.out (by trivial) (by trivial) (by omega) (by omega) (by omega)); have h12 : Fr (fun i => i = r) w11 (w11.setRow r (RC (g + 1) (.slice a8 (L + 1) c8))) := Fr.row1 _ r _; exact ⟨rfl, ⟨_, _, _, _, DAt_past HV11.out HDO.out h12 HR11.out (rc_no _ _ _ _) (fun e => hrp e.symm)⟩, ⟨a8, c8, by rw [HRN.out]; exact ArrKit.Bk.row HR11.out _, HRW0.out _ _ _ _ (HW11.out.keep h12 (fun q e => by have h1 := (HW11.out.blk q e).1; have h2 := HR5L.out; omega))⟩, Fr.then (HF11.out.weaken (fun _ _ h => .inl h)) h12 (fun i _ e => .inr e)⟩) | (obtain ⟨rfl, rfl, rfl⟩ := wr_parts (HX3.out (by trivial) (by trivial) (by omega) (by omega)); exact ⟨rfl, ⟨_, _, _, _, HV5.out.keep HF57.out⟩, ⟨a, c, by rw [HRR.out]; exact HR7.out, HRV5.out.keep HF57.out⟩, (HF5.out.then0 HF57.out).weaken (fun _ _ h => .inl h)⟩)
    · obtain ⟨g1, c2, cur, ev, hb1, ho1⟩ : ∃ g1 c2 cur, (.slice a1 L c1 : Value) = .slice (some ⟨g1, 0, none⟩) m.ps.length c2 ∧ w5.heap.size ≤ g1 ∧ OwnP w6 g1 c2 cur m.ps := by
        rcases HRW6.out with ⟨-, e⟩ | h
        · rw [e] at hk; cases hk
        · exact h
      injection ev with ev1 ev2 ev3
      subst ev1 ev3
      have HKN : Hid (∃ h : k < m.ps.length, m.ps[k].1 = n) := Lib.hid ⟨hk, hkn⟩
      have hkL : k < L := by rw [← HLL.out]; exact hk
      have HG1 : Hid (w5.heap.size ≤ g1 ∧ g1 ≠ gx) := Lib.hid ⟨hb1, HNX.out g1 rfl⟩
      have HO6 := Lib.hid ho1
      obtain ⟨k2, hk2⟩ : ∃ k2, cur[k * 2 + 1]? = some (.int .i64 k2) := ⟨_, ho1.here k hk 1 _ rfl⟩
      have HK2 := Lib.hid hk2
      have HNM := Lib.hid (HNP.out k hp)
      clear hb1 ho1 ev2 hk2 hk hkn
      have HNL : Hid ((m.ps.set k (n, to)).length = L) := Lib.hid (by simp [HLL.out])
      have HRN : Hid (∀ a c, rval (nextM m n to) a c = RC (g + 1) (.slice a L c)) := Lib.hid (fun a c => by
        rw [HNM.out]
        show RC (m.gen + 1) (.slice a (m.ps.set k (n, to)).length c) = _
        rw [HGG.out, HNL.out])
      have HRW0 : Hid (∀ W base a c, RowP W base (.slice a L c) (m.ps.set k (n, to)) → RV W (nextM m n to) a c) := Lib.hid (fun W base a c h => by rw [HNM.out]; exact (Row.rv (g := 0) (m := (⟨m.gen + 1, m.ps.set k (n, to)⟩ : Rm)) h).2)
      have HKX : Hid (∀ W s1 n1 c1 k1 a c, Sh W → DAt W p d3 s1 n1 c1 k1 → RV W (nextM m n to) a c → Calls Tryd.prog 47 #[.pointer (some ⟨p, 0, none⟩), .agg (RC (g + 1) (.slice a L c))] W fun e w' => e = .returned (.int .i64 e5) ∧ Now W w' p d4) := Lib.hid (fun W s1 n1 c1 k1 a c h1 h2 h3 => by have := HKE.out W s1 n1 c1 k1 a c h1 h2 h3; rwa [HRN.out] at this)
      subst hp
      go_wp2_with (first | ((with_reducible show wpList _ _ _ ({ dst := _, op := Op.load 32 _, type := _, pos := _, after := _, guard := _ } :: _) _ _); refine wpList_load_row_g (by rfl) 32 _ rfl r rfl 32 (RC g (.slice a L c)) (0, 0) _ HEND.out.2.1 Tryd.underlying32 rfl (HIN.out _ _) ?_) | (go_at_call 46; (with_reducible refine (HPC.out _ (HRV5.out.keep HEND.out.2.2)).mono ?_); rintro e w7 ⟨rfl, hf7⟩; have HGX7 := Lib.hid (hf7.keep HGX6.out (fun h => h)); have HRW7 := Lib.hid (HRW6.out.keep0 hf7); have HF57 := Lib.hid (HEND.out.2.2.then0 hf7); have HR7 := Lib.hid (hf7.keep HEND.out.2.1 (fun h => h)); have gx1 : w7.cell? ⟨gx, 1, none⟩ = some (.slice (some ⟨g1, 0, none⟩) L c1) := Bk.cell HGX7.out 1; have HO7 := Lib.hid (OwnG.keep HO6.out hf7 (fun h => h)); have g7 : w7.cell? ⟨g1, k * 2 + 1, none⟩ = some (.int .i64 k2) := (Bk.cell HO7.out.blk _).trans HK2.out; have fx7 := Bk.free HO7.out.blk (k * 2 + 1); have HO9 : Hid (OwnP (w7.setCell ⟨g1, k * 2 + 1, none⟩ (.int .i64 to)) g1 c1 _ (m.ps.set k (n, to))) := Lib.hid (own_to HO7.out HKN.out.1 HKN.out.2 to); have HW9 : Hid (RowP (w7.setCell ⟨g1, k * 2 + 1, none⟩ (.int .i64 to)) w5.heap.size (.slice (some ⟨g1, 0, none⟩) L c1) (m.ps.set k (n, to))) := Lib.hid (.inr ⟨g1, c1, _, by rw [HNL.out], HG1.out.1, HO9.out⟩); have HGX9 : Hid (Bk (w7.setCell ⟨g1, k * 2 + 1, none⟩ (.int .i64 to)) gx (RC (g + 1) (.slice (some ⟨g1, 0, none⟩) L c1)) 32) := Lib.hid (Bk.setOther HGX7.out _ _ (by show gx ≠ g1; exact fun e => HG1.out.2 e.symm)); have HR9 : Hid (Bk (w7.setCell ⟨g1, k * 2 + 1, none⟩ (.int .i64 to)) r (RC g (.slice a L c)) 32) := Lib.hid (Bk.setOther HR7.out _ _ (by show r ≠ g1; have h1 := HG1.out.1; have h2 := HR5L.out; omega)); have HF59 : Hid (Fr0 w5 (w7.setCell ⟨g1, k * 2 + 1, none⟩ (.int .i64 to))) := Lib.hid (Fr.set HF57.out _ _ (.inl (by show w5.heap.size ≤ g1; exact HG1.out.1))); clear hf7) | (go_at_call 8; (with_reducible refine (HFL.out _ _ _ _ _ (HV5.out.keep HF59.out)).mono ?_); rintro e w10 ⟨rfl, ⟨sA, nA, cA, mA, hvA⟩, hf10⟩; have HV10 := Lib.hid hvA; have HGX10 := Lib.hid (hf10.keep HGX9.out hgxp); have HR10 := Lib.hid (hf10.keep HR9.out hrp); have HW10 : Hid (RowP w10 w5.heap.size (.slice (some ⟨g1, 0, none⟩) L c1) (m.ps.set k (n, to))) := Lib.hid (HW9.out.keep hf10 (fun q e => by have h1 := (HW9.out.blk q e).1; have h2 := HP5L.out; omega)); have HRV10 : Hid (RV w10 m a c) := Lib.hid (RV.past (HRV5.out.keep HF59.out) hf10 (HV5.out.keep HF59.out).blk); have HF10 : Hid (Fr (fun i => i = p) w w10) := Lib.hid ((HF5.out.trans (HF59.out.weaken (fun _ _ h => h.elim))).trans hf10); clear hvA hf10) | (go_at_call 47; (with_reducible refine (HKX.out _ _ _ _ _ (some ⟨g1, 0, none⟩) c1 (HSH.out.keep HF10.out HSN.out.1 HSN.out.2) HV10.out (HRW0.out _ _ _ _ HW10.out)).mono ?_); rintro e w11 ⟨rfl, ⟨sB, nB, cB, mB, hvB⟩, hf11⟩; have HV11 := Lib.hid hvB; have HGX11 := Lib.hid (hf11.keep HGX10.out hgxp); have HR11 := Lib.hid (hf11.keep HR10.out hrp); have HW11 : Hid (RowP w11 w5.heap.size (.slice (some ⟨g1, 0, none⟩) L c1) (m.ps.set k (n, to))) := Lib.hid (HW10.out.keep hf11 (fun q e => by have h1 := (HW10.out.blk q e).1; have h2 := HP5L.out; omega)); have HRV11 : Hid (RV w11 m a c) := Lib.hid (RV.past HRV10.out hf11 HV10.out.blk); have HF11 : Hid (Fr (fun i => i = p) w w11) := Lib.hid (HF10.out.trans hf11); clear hvB hf11) | ((with_reducible show wpList _ _ _ ({ dst := _, op := Op.load 32 _, type := _, pos := _, after := _, guard := _ } :: _) _ _); refine wpList_load_row_g (by rfl) 32 _ rfl gx rfl 32 (RC (g + 1) (.slice (some ⟨g1, 0, none⟩) L c1)) (0, 0) _ HGX11.out Tryd.underlying32 rfl (HIN.out _ _) ?_) | ((with_reducible show wpList _ _ _ ({ dst := _, op := Op.load 32 _, type := _, pos := _, after := _, guard := _ } :: _) _ _); refine wpList_load_row_g (by rfl) 32 _ rfl gx rfl 32 (RC (g + 1) (.slice (some ⟨g1, 0, none⟩) L c1)) (0, 0) _ HGX10.out Tryd.underlying32 rfl (HIN.out _ _) ?_) | ((with_reducible show wpList _ _ _ ({ dst := _, op := Op.store 32 _ _, type := _, pos := _, after := _, guard := _ } :: _) _ _); refine wpList_store_row rfl 32 _ _ rfl r (RC (g + 1) (.slice (some ⟨g1, 0, none⟩) L c1)) rfl rfl 32 (RC g (.slice a L c)) HR11.out (HIN.out _ _) rfl (RC_all _ _ _ _) ?_))
      all_goals go_ret
      all_goals (try simp only [bne_iff_ne, ne_eq, beq_iff_eq, bne_eq_false_iff_eq, beq_eq_false_iff_ne] at *)
      all_goals first | (obtain ⟨rfl, rfl, rfl⟩ := wr_parts (HX4.out (by trivial) (by trivial) (by omega) (by omega)); exact ⟨rfl, ⟨_, _, _, _, HV10.out⟩, ⟨a, c, by rw [HRR.out]; exact HR10.out, HRV10.out⟩, HF10.out.weaken (fun _ _ h => .inl h)⟩) | (obtain ⟨rfl, rfl, rfl⟩ := wr_parts (HX5.out (by trivial) (by trivial) (by omega) (by omega) (by omega)); exact ⟨rfl, ⟨_, _, _, _, HV11.out⟩, ⟨a, c, by rw [HRR.out]; exact HR11.out, HRV11.out⟩, HF11.out.weaken (fun _ _ h => .inl h)⟩) | (obtain ⟨rfl, rfl, rfl⟩ := wr_parts (HX6.out (by trivial) (by trivial) (by omega) (by omega) (by omega)); have h12 : Fr (fun i => i = r) w11 (w11.setRow r (RC (g + 1) (.slice (some ⟨g1, 0, none⟩) L c1))) := Fr.row1 _ r _; exact ⟨rfl, ⟨_, _, _, _, DAt_past HV11.out HDO.out h12 HR11.out (rc_no _ _ _ _) (fun e => hrp e.symm)⟩, ⟨(some ⟨g1, 0, none⟩), c1, by rw [HRN.out]; exact ArrKit.Bk.row HR11.out _, HRW0.out _ _ _ _ (HW11.out.keep h12 (fun q e => by have h1 := (HW11.out.blk q e).1; have h2 := HR5L.out; omega))⟩, Fr.then (HF11.out.weaken (fun _ _ h => .inl h)) h12 (fun i _ e => .inr e)⟩)

set_option maxHeartbeats 2000000 in
set_option maxRecDepth 100000 in
theorem write_calls (p r : Nat) (d : Dk) (sa : Option Addr) (sc : Nat) (ca : Option Addr) (cc : Nat) (m : Rm) (a : Option Addr) (c : Nat) (b : List UInt8) (n : Int) (w : World) (hok : d.ok) (hv : DAt w p d sa sc ca cc) (hm : m.ok) (hrv : RV w m a c) (hb : b.length = 128) (hR : Bk w r (rval m a c) 32) (hrp : r ≠ p) (hsh : Sh w) (hn : (Lit.int .i64 n).wf = true) (hC : d.C.length ≤ 900) : Calls Tryd.prog 19 #[.pointer (some ⟨p, 0, none⟩), .pointer (some ⟨r, 0, none⟩), .int .i64 n, .agg (b.map B).toArray] w fun e w' => e = .returned (.int .i64 (wrX d m n b).1) ∧ DIn w' p (wrX d m n b).2.1 ∧ (∃ a' c', Bk w' r (rval (wrX d m n b).2.2 a' c') 32 ∧ RV w' (wrX d m n b).2.2 a' c') ∧ Fr (fun i => i = p ∨ i = r) w w' := by
  cases h1 : askedB d m n with
  | false => rw [wrX_no h1]; exact wr0 p r d sa sc ca cc m a c b _ n _ w rfl rfl hok hv hm hrv hb hR hrp hsh hn hC h1
  | true => exact wr1 p r d sa sc ca cc m a c b _ n _ w rfl rfl hok hv hm hrv hb hR hrp hsh hn hC h1 _ _ _ rfl

end Go.Proofs.YtmkmpfnadcmcoaaDoor.RmWrite
