/- The theorems that the claim uses, text behind text (part 12). -/
import Derived.Test.YtlleandelcjhjaaDoorZab
import Derived.Test.YtlleandelcjhjaaDoorZad
import Derived.Test.YtlleandelcjhjaaDoorZag
import Derived.Test.YtlleandelcjhjaaDoorZak
import Derived.RangeFuncNested
import Derived.RangeFuncBound
import Derived.RangeFuncCalls
import Derived.RangeFuncLeaves
import Derived.Shelf.Abstract
import Derived.Shelf.RegionOpen
import Derived.OwnWalkIn
import Derived.TacticsInMore
import Derived.LoopNIn
import Derived.LoopIn
set_option maxRecDepth 100000
set_option linter.unusedVariables false
set_option linter.unusedSimpArgs false
namespace Go.Proofs.YtlleandelcjhjaaDoor.RmSame
open Go Go.RowKit Go.Proofs.YtlleandelcjhjaaDoor.K Go.Proofs.YtlleandelcjhjaaDoor.EqKit Go.Proofs.YtlleandelcjhjaaDoor.ArrKit Go.Proofs.YtlleandelcjhjaaDoor.HeldKit Go.Proofs.YtlleandelcjhjaaDoor.GKit Go.Proofs.YtlleandelcjhjaaDoor.GRow Go.Proofs.YtlleandelcjhjaaDoor.DiskKit Go.Proofs.YtlleandelcjhjaaDoor.RmKit Go.Proofs.YtlleandelcjhjaaDoor.MapKit Go.Proofs.YtlleandelcjhjaaDoor.RmRight Go.Proofs.YtlleandelcjhjaaDoor.RmRRight Go.Proofs.YtlleandelcjhjaaDoor.RmTab Go.Proofs.YtlleandelcjhjaaDoor.RmAsk Go.Proofs.YtlleandelcjhjaaDoor.DiskSame
theorem cells_pr : Tryd.prog.cellsOf 69 = 2 := by kernel_rfl
theorem guard_pr : Tryd.prog.eqGuardType Tryd.prog.depth 69 = false := by kernel_rfl
theorem lits_pair (p : Int × Int) (h : (Lit.int .i64 p.1).wf = true ∧ (Lit.int .i64 p.2).wf = true) : Tryd.prog.keyLits 3 69 (PR p) = some [Lit.int .i64 p.1, Lit.int .i64 p.2] := by
  unfold Program.keyLits
  rw [Tryd.underlying69]
  simp [PR, cells_pr, DiskSame.cells_i64, DiskSame.lits_i64 1 h.1, DiskSame.lits_i64 1 h.2]
theorem eq_pair (p q : Int × Int) (h : (Lit.int .i64 p.1).wf = true ∧ (Lit.int .i64 p.2).wf = true) (h' : (Lit.int .i64 q.1).wf = true ∧ (Lit.int .i64 q.2).wf = true) (W : World) : (Op.equalIn 10000 69 (.agg (PR p).toArray) (.agg (PR q).toArray)).run Tryd.prog W = .ok (decide (p = q)) W := by
  obtain ⟨r, hr, hiff⟩ := run_equalIn_deep 9997 3 69 (by kernel_rfl) W 3 3 (.agg (PR p).toArray) (.agg (PR q).toArray) _ _ (by simp [Value.formed, Tryd.underlying69, cells_pr, PR]) (by simp [Value.formed, Tryd.underlying69, cells_pr, PR]) (lits_pair p h) (lits_pair q h')
  rw [show (10000 : Nat) = 9997 + 3 from rfl, hr]
  congr 1
  rw [Bool.eq_iff_iff, hiff, decide_eq_true_eq]
  constructor
  · intro e
    simp only [List.cons.injEq, Lit.int.injEq, true_and, and_true] at e
    exact Prod.ext e.1 e.2
  · rintro rfl; rfl
theorem infoPr : (Tryd.prog.info? 69).map (fun i => (i.zero, i.size, i.bytes)) = some (some (.agg PZ2), 2, 16) := by kernel_rfl
def RZ : Array Value := RC 0 (.slice none 0 0)
theorem zero_r (W : World) : (zeroValue 24).run Tryd.prog W = .ok (.agg RZ) W := by kernel_rfl
theorem RC_all (g : Int) (a : Option Addr) (n c : Nat) : (RC g (.slice a n c)).all (·.oneCell') = true := by simp [RC, Value.oneCell']
abbrev OwnP (w : World) (g cap : Nat) (cur : Array Value) (l : List (Int × Int)) : Prop := OwnG PR 2 69 w g cap cur l
set_option maxHeartbeats 2000000 in
set_option maxRecDepth 100000 in
theorem rmcopy_calls (m : Rm) (a : Option Addr) (c : Nat) (w : World) (hv : RV w m a c) (hlen : m.ps.length ≤ 8796093022208) : Calls Tryd.prog 10 #[.agg (rval m a c)] w fun e w' => ∃ g cap cur, e = .returned (.agg (rval m (some ⟨g, 0, none⟩) cap)) ∧ w.heap.size ≤ g ∧ OwnP w' g cap cur m.ps ∧ Fr0 w w' := by
  have hz := zero_r
  obtain ⟨i1, hy0, hz0, hz1, hz2⟩ := info_parts infoPr
  have HJ : Hid (Tryd.prog.info? 69 = some i1 ∧ i1.zero = some (.agg PZ2) ∧ i1.size = 2 ∧ i1.bytes = 16) := Lib.hid ⟨hy0, hz0, hz1, hz2⟩
  clear hy0 hz0 hz1 hz2
  have hs1 : (w.alloc (.cells (rval m a c) 24)).heap.size = w.heap.size + 1 := by simp
  have hs2 : ((w.alloc (.cells (rval m a c) 24)).alloc (.cells RZ 24)).heap.size = w.heap.size + 1 + 1 := by simp
  have HX : Hid (Bk (((w.alloc (.cells (rval m a c) 24)).alloc (.cells RZ 24)).alloc (.cells #[] 69)) w.heap.size (rval m a c) 24) := Lib.hid (Bk.alloc (Bk.alloc (Bk.new w _) _) _)
  have HR : Hid (Bk (((w.alloc (.cells (rval m a c) 24)).alloc (.cells RZ 24)).alloc (.cells #[] 69)) (w.heap.size + 1) RZ 24) := Lib.hid (Bk.alloc (by have := Bk.new (w.alloc (.cells (rval m a c) 24)) (.cells RZ 24); rwa [hs1] at this) _)
  have HE : Hid (Bk (((w.alloc (.cells (rval m a c) 24)).alloc (.cells RZ 24)).alloc (.cells #[] 69)) (w.heap.size + 1 + 1) #[] 69) := Lib.hid (by have := Bk.new ((w.alloc (.cells (rval m a c) 24)).alloc (.cells RZ 24)) (.cells #[] 69); rwa [hs2] at this)
  have HF : Hid (Fr0 w (((w.alloc (.cells (rval m a c) 24)).alloc (.cells RZ 24)).alloc (.cells #[] 69))) := Lib.hid (Fr.alloc (Fr.alloc (Fr.alloc (Fr.refl _ _) _) _) _)
  have HRD := Lib.hid (hv.rd.keep HF.out)
  have hp1 : (rval m a c)[1]? = some (.slice a m.ps.length c) := rfl
  have HIN : Hid (∀ x y, (Tryd.prog.info? 24).map (·.size) = some (RC x y).size) := Lib.hid (fun _ _ => info_r _ _)
  have HP : Hid (Builtin.append_ #[22, 22] 22 #[.slice (some ⟨w.heap.size + 1 + 1, 0, none⟩) 0 0, .slice a m.ps.length c] = Builtin.append_ #[22, 22] 22 #[.slice (some ⟨w.heap.size + 1 + 1, 0, none⟩) 0 0, .slice a m.ps.length c]) := Lib.hid rfl
  clear hs1 hs2 hv HP
  have HG0 : Hid (rval m a c = RC m.gen (.slice a m.ps.length c)) := Lib.hid rfl
  generalize rval m a c = X at *
  go_enter Tryd.func10, Tryd.ntmps10
  go_wp2_with (first | ((with_reducible show wpList _ _ _ ({ dst := _, op := Op.buildSlice 22 0 _, type := _, pos := _, after := _, guard := _ } :: _) _ _); refine wpList_plain rfl fun K hK => ?_; refine GApp.wp_buildSlice_nil 22 rfl 69 i1 Tryd.underlying22 HJ.out.1 ?_; refine hK _ _ ?_) | (at_builtin; refine wpList_append_all rfl (.tmp 3) (.tmp 5) 22 (by rfl) i1 (.agg PZ2) 16 Tryd.underlying22 HJ.out.1 HJ.out.2.1 HJ.out.2.2.1 HJ.out.2.2.2 rfl (by decide) (w.heap.size + 1 + 1) HE.out (by rfl) a m.ps.length c (by rfl) m.ps rfl HRD.out (fun x _ => PR_len x) (fun x _ => PR_one x) (by omega) (by omega) ?_; intro g cap cur w1 hge hown hfr; have HO1 := Lib.hid hown; have HX1 := Lib.hid (hfr.keep HX.out (by omega)); have HR1 := Lib.hid (hfr.keep HR.out (by omega)); have HF1 : Hid (Fr0 w w1) := Lib.hid (Fr.newG HF.out hfr (by omega)); have HGE := Lib.hid hge; have cx := Bk.cell HX1.out 1; rw [hp1] at cx; have fx := Bk.free HX1.out 1; have HX2 : Hid (Bk (w1.setCell ⟨w.heap.size, 1, none⟩ (.slice (some ⟨g, 0, none⟩) m.ps.length cap)) w.heap.size (RC m.gen (.slice (some ⟨g, 0, none⟩) m.ps.length cap)) 24) := Lib.hid (by have := Bk.set HX1.out 1 (.slice (some ⟨g, 0, none⟩) m.ps.length cap); rwa [HG0.out] at this); have HR2 : Hid (Bk (w1.setCell ⟨w.heap.size, 1, none⟩ (.slice (some ⟨g, 0, none⟩) m.ps.length cap)) (w.heap.size + 1) RZ 24) := Lib.hid (Bk.setOther HR1.out _ _ (by show w.heap.size + 1 ≠ w.heap.size; omega)); clear hge hown hfr) | ((with_reducible show wpList _ _ _ ({ dst := _, op := Op.load 24 _, type := _, pos := _, after := _, guard := _ } :: _) _ _); refine wpList_load_row_g (by rfl) 24 _ rfl w.heap.size rfl 24 (RC m.gen (.slice (some ⟨g, 0, none⟩) m.ps.length cap)) (0, 0) _ HX2.out Tryd.underlying24 rfl (HIN.out _ _) ?_) | ((with_reducible show wpList _ _ _ ({ dst := _, op := Op.store 24 _ _, type := _, pos := _, after := _, guard := _ } :: _) _ _); refine wpList_store_row rfl 24 _ _ rfl (w.heap.size + 1) (RC m.gen (.slice (some ⟨g, 0, none⟩) m.ps.length cap)) rfl rfl 24 RZ HR2.out (HIN.out _ _) rfl (RC_all _ _ _ _) ?_))
  refine fin_c (w.heap.size + 1) 24 (RC m.gen (.slice (some ⟨g, 0, none⟩) m.ps.length cap)) (by rfl) (by rfl) (by rfl) Tryd.underlying24 (by rfl) (HIN.out _ _) (ArrKit.Bk.row HR2.out _) ?_
  have hgg := HGE.out
  refine ⟨g, cap, cur, rfl, by omega, ?_, ?_⟩
  · exact OwnG.keep (OwnG.keep HO1.out (Fr.set1 w1 w.heap.size 1 (.slice (some ⟨g, 0, none⟩) m.ps.length cap)) (by omega)) (Fr.row1 _ (w.heap.size + 1) _) (by omega)
  · exact ArrKit.Fr.row (Fr.set HF1.out _ _ (.inl (Nat.le_refl _))) _ _ (.inl (by omega))

set_option maxHeartbeats 2000000 in
set_option maxRecDepth 100000 in
theorem rmsame_no (m n : Rm) (a b : Option Addr) (c d : Nat) (w : World) (h : m.gen ≠ n.gen ∨ m.ps.length ≠ n.ps.length) : Calls Tryd.prog 19 #[.agg (rval m a c), .agg (rval n b d)] w fun e w' => e = .returned (.bool false) ∧ Fr0 w w' := by
  have hs1 : (w.alloc (.cells (rval m a c) 24)).heap.size = w.heap.size + 1 := by simp
  have HX : Hid (Bk ((w.alloc (.cells (rval m a c) 24)).alloc (.cells (rval n b d) 24)) w.heap.size (rval m a c) 24) := Lib.hid (Bk.alloc (Bk.new w _) _)
  have HY : Hid (Bk ((w.alloc (.cells (rval m a c) 24)).alloc (.cells (rval n b d) 24)) (w.heap.size + 1) (rval n b d) 24) := Lib.hid (by have := Bk.new (w.alloc (.cells (rval m a c) 24)) (.cells (rval n b d) 24); rwa [hs1] at this)
  have HF : Hid (Fr0 w ((w.alloc (.cells (rval m a c) 24)).alloc (.cells (rval n b d) 24))) := Lib.hid (Fr.alloc (Fr.alloc (Fr.refl _ _) _) _)
  have px0 : (rval m a c)[0]? = some (.int .i64 m.gen) := rfl
  have px1 : (rval m a c)[1]? = some (.slice a m.ps.length c) := rfl
  have py0 : (rval n b d)[0]? = some (.int .i64 n.gen) := rfl
  have py1 : (rval n b d)[1]? = some (.slice b n.ps.length d) := rfl
  have HPX1 := Lib.hid px1
  have HPY1 := Lib.hid py1
  clear hs1
  generalize rval m a c = X at *
  generalize rval n b d = Y at *
  by_cases hg : m.gen = n.gen
  · have hn : m.ps.length ≠ n.ps.length := h.resolve_left (fun e => e hg)
    have e1 : (m.gen != n.gen) = false := by simpa using hg
    have e2 : (m.ps.length != n.ps.length) = true := by simpa using hn
    have e3 : ((m.ps.length : Int) != (n.ps.length : Int)) = true := by simp; omega
    clear h hg hn
    generalize m.gen = g1 at *
    generalize n.gen = g2 at *
    go_enter Tryd.func19, Tryd.ntmps19
    go_wp2
    go_ret
    exact ⟨rfl, HF.out⟩
  · have e1 : (m.gen != n.gen) = true := by simpa using hg
    clear h hg
    generalize m.gen = g1 at *
    generalize n.gen = g2 at *
    go_enter Tryd.func19, Tryd.ntmps19
    go_wp2
    go_ret
    exact ⟨rfl, HF.out⟩
set_option maxHeartbeats 2000000 in
set_option maxRecDepth 100000 in
theorem rmsame_loop (m n : Rm) (a b : Option Addr) (c d : Nat) (w : World) (hm : m.ok) (hn : n.ok) (hv : RV w m a c) (hv' : RV w n b d) (hg : m.gen = n.gen) (hl : m.ps.length = n.ps.length) (h63 : m.ps.length ≤ 8796093022208) : Calls Tryd.prog 19 #[.agg (rval m a c), .agg (rval n b d)] w fun e w' => e = .returned (.bool (decide (m.ps = n.ps))) ∧ Fr0 w w' := by
  have hs1 : (w.alloc (.cells (rval m a c) 24)).heap.size = w.heap.size + 1 := by simp
  have HX : Hid (Bk ((w.alloc (.cells (rval m a c) 24)).alloc (.cells (rval n b d) 24)) w.heap.size (rval m a c) 24) := Lib.hid (Bk.alloc (Bk.new w _) _)
  have HY : Hid (Bk ((w.alloc (.cells (rval m a c) 24)).alloc (.cells (rval n b d) 24)) (w.heap.size + 1) (rval n b d) 24) := Lib.hid (by have := Bk.new (w.alloc (.cells (rval m a c) 24)) (.cells (rval n b d) 24); rwa [hs1] at this)
  have HF : Hid (Fr0 w ((w.alloc (.cells (rval m a c) 24)).alloc (.cells (rval n b d) 24))) := Lib.hid (Fr.alloc (Fr.alloc (Fr.refl _ _) _) _)
  have px0 : (rval m a c)[0]? = some (.int .i64 m.gen) := rfl
  have px1 : (rval m a c)[1]? = some (.slice a m.ps.length c) := rfl
  have py0 : (rval n b d)[0]? = some (.int .i64 n.gen) := rfl
  have py1 : (rval n b d)[1]? = some (.slice b n.ps.length d) := rfl
  have HPX1 := Lib.hid px1
  have HPY1 := Lib.hid py1
  clear hs1
  have HPM := Lib.hid hm.p
  have HPN := Lib.hid hn.p
  have HV := Lib.hid hv.rd
  have HV' := Lib.hid hv'.rd
  have HL := Lib.hid hl
  have e1 : (m.gen != n.gen) = false := by simpa using hg
  have e2 : (m.ps.length != n.ps.length) = false := by simpa using hl
  have e3 : ((m.ps.length : Int) != (n.ps.length : Int)) = false := by simp; omega
  clear hm hn hv hv' hg hl
  generalize rval m a c = X at *
  generalize rval n b d = Y at *
  generalize m.gen = g1 at *
  generalize n.gen = g2 at *
  go_enter Tryd.func19, Tryd.ntmps19
  go_wp2
  clear e1 e2 e3 px0 px1 py0 py1
  generalize (w.alloc (.cells X 24)).alloc (.cells Y 24) = w5 at *
  go_loopw [5] (fun jj W => ∃ j : Nat, j ≤ m.ps.length ∧ jj = .int .i64 j ∧ (∀ q (h1 : q < j) (h2 : q < m.ps.length) (h3 : q < n.ps.length), m.ps[q] = n.ps[q]) ∧ Fr0 w5 W) (fun jj _ => m.ps.length - (intOf jj).toNat)
  case atStart => exact ⟨0, Nat.zero_le _, rfl, fun q h => by omega, Fr.refl _ _⟩
  case round =>
    obtain ⟨j, hj, rfl, hall, hF⟩ := hrel
    have HALL := Lib.hid hall
    have HF5 := Lib.hid hF
    have HX5 := Lib.hid (hF.keep HX.out (fun h => h))
    have HY5 := Lib.hid (hF.keep HY.out (fun h => h))
    have cx : wr.cell? ⟨w.heap.size, 1, none⟩ = some (.slice a m.ps.length c) := (Bk.cell HX5.out 1).trans HPX1.out
    clear hall hF
    by_cases hjl : j < m.ps.length
    · have hjl2 : j < n.ps.length := by rw [← HL.out]; exact hjl
      obtain ⟨b2, o2, rfl, hat⟩ := RdP.form HV.out hjl
      obtain ⟨b3, o3, rfl, hat'⟩ := RdP.form HV'.out hjl2
      have HA := Lib.hid (fun W f => (hat W (HV.out.keep f)).1)
      have HB := Lib.hid (fun W f => (hat' W (HV'.out.keep f)).1)
      have HEQ := Lib.hid (eq_pair m.ps[j] n.ps[j] (HPM.out _ (List.getElem_mem hjl)) (HPN.out _ (List.getElem_mem hjl2)))
      have HD : Hid (m.ps[j] = n.ps[j] ∨ m.ps[j] ≠ n.ps[j]) := Lib.hid (Classical.em _)
      have HNO : Hid (m.ps[j] ≠ n.ps[j] → decide (m.ps = n.ps) = false) := Lib.hid (fun h => decide_eq_false (fun e => h (by simp only [e])))
      have HIY := Lib.hid (info_pr m.ps[j])
      have HIZ := Lib.hid (info_pr n.ps[j])
      have HSS : Hid (Bk wr w.heap.size X 24 ∧ Bk wr (w.heap.size + 1) Y 24 ∧ Fr0 w wr) := Lib.hid ⟨HX5.out, HY5.out, HF.out.then0 HF5.out⟩
      clear hat hat'
      generalize hP : m.ps[j] = pp at *
      generalize hQ : n.ps[j] = qq at *
      have HPP := Lib.hid hP
      have HQQ := Lib.hid hQ
      clear hP hQ
      go_wp2
      by_cases hpq : pp = qq
      · skip
        have HPQ := Lib.hid hpq
        have HEV : Hid (∀ W, (Op.equalIn 10000 69 (.agg (PR pp).toArray) (.agg (PR qq).toArray)).run Tryd.prog W = .ok true W) := Lib.hid (fun W => by rw [HEQ.out, decide_eq_true hpq])
        clear hpq
        refine wp_region_noPanic ?_
        refine wp_region_held_drew (S := (fun W : World => Bk W w.heap.size X 24 ∧ Bk W (w.heap.size + 1) Y 24 ∧ Fr0 w W)) (by kernel_rfl) (⟨HSS.out.1, HSS.out.2.1, Fr.drew HSS.out.2.2⟩) (fun hHeld0 => ?_)
        refine tk0 (i := 0) (v := .pointer (some ⟨w.heap.size, 1, none⟩)) rfl hHeld0 ?_
        simp only [Act.put, zA, zB, zC, zD, zE, zF]
        refine tk (i := 1) (v := .slice (some ⟨b2, o2, none⟩) m.ps.length c) rfl (Or.inl ⟨by kernel_rfl, fun w hSw => by have hcl := (fun W h => (Bk.cell h.1 1).trans HPX1.out) w hSw; go_simp⟩) hHeld0 ?_
        simp only [Act.put, zA, zB, zC, zD, zE, zF]
        refine tk0 (i := 2) (v := .int .i64 (j : Int)) rfl hHeld0 ?_
        simp only [Act.put, zA, zB, zC, zD, zE, zF]
        refine tk (i := 3) (v := .pointer (some ⟨b2, o2 + j * 2, none⟩)) rfl (Or.inl ⟨by kernel_rfl, fun w hSw => by go_simp⟩) hHeld0 ?_
        simp only [Act.put, zA, zB, zC, zD, zE, zF]
        refine tk (i := 4) (v := .agg (PR pp).toArray) rfl (yieldsIf_load_mid (by kernel_rfl) 69 _ rfl b2 (o2 + j * 2) rfl (PR pp) _ (fun W h => HA.out W h.2.2) Tryd.underlying69 rfl HIY.out) hHeld0 ?_
        simp only [Act.put, zA, zB, zC, zD, zE, zF]
        refine tk0 (i := 5) (v := .pointer (some ⟨w.heap.size + 1, 1, none⟩)) rfl hHeld0 ?_
        simp only [Act.put, zA, zB, zC, zD, zE, zF]
        refine tk (i := 6) (v := .slice (some ⟨b3, o3, none⟩) n.ps.length d) rfl (Or.inl ⟨by kernel_rfl, fun w hSw => by have hcl := (fun W h => (Bk.cell h.2.1 1).trans HPY1.out) w hSw; go_simp⟩) hHeld0 ?_
        simp only [Act.put, zA, zB, zC, zD, zE, zF]
        refine tk0 (i := 7) (v := .int .i64 (j : Int)) rfl hHeld0 ?_
        simp only [Act.put, zA, zB, zC, zD, zE, zF]
        refine tk (i := 8) (v := .pointer (some ⟨b3, o3 + j * 2, none⟩)) rfl (Or.inl ⟨by kernel_rfl, fun w hSw => by go_simp⟩) hHeld0 ?_
        simp only [Act.put, zA, zB, zC, zD, zE, zF]
        refine tk (i := 9) (v := .agg (PR qq).toArray) rfl (yieldsIf_load_mid (by kernel_rfl) 69 _ rfl b3 (o3 + j * 2) rfl (PR qq) _ (fun W h => HB.out W h.2.2) Tryd.underlying69 rfl HIZ.out) hHeld0 ?_
        simp only [Act.put, zA, zB, zC, zD, zE, zF]
        refine tk (i := 10) (v := .bool false) rfl (Or.inl ⟨by kernel_rfl, fun w hSw => run_neq_op rfl rfl rfl guard_pr HEV.out w⟩) hHeld0 ?_
        simp only [Act.put, zA, zB, zC, zD, zE, zF]
        change wpAnyH _ _ _ _ _ 0 #[true, true, true, true, true, true, true, true, true, true, true] _ _
        refine wpAnyH_done (by kernel_rfl) ?_ _
        refine NoPanic.normal ?_
        have HEND := Lib.hid hHeld0
        clear hHeld0
        go_wp2
        go_roundw
        case rel => exact ⟨j + 1, by omega, by go_num, fun q h1 h2 h3 => by
            rcases Nat.lt_or_ge q j with h | h
            · exact HALL.out q h h2 h3
            · obtain rfl : q = j := by omega
              rw [HPP.out, HQQ.out, HPQ.out], Fr.drew HF5.out⟩
        case measure => simp [intOf]; omega
      · skip
        have HPQ := Lib.hid hpq
        have HEV : Hid (∀ W, (Op.equalIn 10000 69 (.agg (PR pp).toArray) (.agg (PR qq).toArray)).run Tryd.prog W = .ok false W) := Lib.hid (fun W => by rw [HEQ.out, decide_eq_false hpq])
        clear hpq
        refine wp_region_noPanic ?_
        refine wp_region_held_drew (S := (fun W : World => Bk W w.heap.size X 24 ∧ Bk W (w.heap.size + 1) Y 24 ∧ Fr0 w W)) (by kernel_rfl) (⟨HSS.out.1, HSS.out.2.1, Fr.drew HSS.out.2.2⟩) (fun hHeld0 => ?_)
        refine tk0 (i := 0) (v := .pointer (some ⟨w.heap.size, 1, none⟩)) rfl hHeld0 ?_
        simp only [Act.put, zA, zB, zC, zD, zE, zF]
        refine tk (i := 1) (v := .slice (some ⟨b2, o2, none⟩) m.ps.length c) rfl (Or.inl ⟨by kernel_rfl, fun w hSw => by have hcl := (fun W h => (Bk.cell h.1 1).trans HPX1.out) w hSw; go_simp⟩) hHeld0 ?_
        simp only [Act.put, zA, zB, zC, zD, zE, zF]
        refine tk0 (i := 2) (v := .int .i64 (j : Int)) rfl hHeld0 ?_
        simp only [Act.put, zA, zB, zC, zD, zE, zF]
        refine tk (i := 3) (v := .pointer (some ⟨b2, o2 + j * 2, none⟩)) rfl (Or.inl ⟨by kernel_rfl, fun w hSw => by go_simp⟩) hHeld0 ?_
        simp only [Act.put, zA, zB, zC, zD, zE, zF]
        refine tk (i := 4) (v := .agg (PR pp).toArray) rfl (yieldsIf_load_mid (by kernel_rfl) 69 _ rfl b2 (o2 + j * 2) rfl (PR pp) _ (fun W h => HA.out W h.2.2) Tryd.underlying69 rfl HIY.out) hHeld0 ?_
        simp only [Act.put, zA, zB, zC, zD, zE, zF]
        refine tk0 (i := 5) (v := .pointer (some ⟨w.heap.size + 1, 1, none⟩)) rfl hHeld0 ?_
        simp only [Act.put, zA, zB, zC, zD, zE, zF]
        refine tk (i := 6) (v := .slice (some ⟨b3, o3, none⟩) n.ps.length d) rfl (Or.inl ⟨by kernel_rfl, fun w hSw => by have hcl := (fun W h => (Bk.cell h.2.1 1).trans HPY1.out) w hSw; go_simp⟩) hHeld0 ?_
        simp only [Act.put, zA, zB, zC, zD, zE, zF]
        refine tk0 (i := 7) (v := .int .i64 (j : Int)) rfl hHeld0 ?_
        simp only [Act.put, zA, zB, zC, zD, zE, zF]
        refine tk (i := 8) (v := .pointer (some ⟨b3, o3 + j * 2, none⟩)) rfl (Or.inl ⟨by kernel_rfl, fun w hSw => by go_simp⟩) hHeld0 ?_
        simp only [Act.put, zA, zB, zC, zD, zE, zF]
        refine tk (i := 9) (v := .agg (PR qq).toArray) rfl (yieldsIf_load_mid (by kernel_rfl) 69 _ rfl b3 (o3 + j * 2) rfl (PR qq) _ (fun W h => HB.out W h.2.2) Tryd.underlying69 rfl HIZ.out) hHeld0 ?_
        simp only [Act.put, zA, zB, zC, zD, zE, zF]
        refine tk (i := 10) (v := .bool true) rfl (Or.inl ⟨by kernel_rfl, fun w hSw => run_neq_op rfl rfl rfl guard_pr HEV.out w⟩) hHeld0 ?_
        simp only [Act.put, zA, zB, zC, zD, zE, zF]
        change wpAnyH _ _ _ _ _ 0 #[true, true, true, true, true, true, true, true, true, true, true] _ _
        refine wpAnyH_done (by kernel_rfl) ?_ _
        refine NoPanic.normal ?_
        have HEND := Lib.hid hHeld0
        clear hHeld0
        go_wp2
        go_ret
        exact ⟨by rw [HNO.out HPQ.out]; rfl, HEND.out.2.2⟩
    · have HYES : Hid (decide (m.ps = n.ps) = true) := Lib.hid (decide_eq_true (List.ext_getElem HL.out (fun q h1 h2 => HALL.out q (by omega) h1 h2)))
      go_wp2
      go_ret
      exact ⟨by rw [HYES.out]; rfl, HF.out.then0 HF5.out⟩

theorem rmsame_calls (m n : Rm) (a b : Option Addr) (c d : Nat) (w : World) (hm : m.ok) (hn : n.ok) (hv : RV w m a c) (hv' : RV w n b d) (h63 : m.ps.length ≤ 8796093022208) : Calls Tryd.prog 19 #[.agg (rval m a c), .agg (rval n b d)] w fun e w' => e = .returned (.bool (decide (m.gen = n.gen ∧ m.ps = n.ps))) ∧ Fr0 w w' := by
  by_cases h : m.gen ≠ n.gen ∨ m.ps.length ≠ n.ps.length
  · rw [decide_eq_false (by rintro ⟨e1, e2⟩; rcases h with h | h; exact h e1; exact h (by rw [e2]))]
    exact rmsame_no m n a b c d w h
  · have hg : m.gen = n.gen := Classical.not_not.1 (fun e => h (.inl e))
    have hl : m.ps.length = n.ps.length := Classical.not_not.1 (fun e => h (.inr e))
    have e : decide (m.gen = n.gen ∧ m.ps = n.ps) = decide (m.ps = n.ps) := by simp [hg]
    rw [e]
    exact rmsame_loop m n a b c d w hm hn hv hv' hg hl h63

end Go.Proofs.YtlleandelcjhjaaDoor.RmSame
namespace Go.Proofs.YtlleandelcjhjaaDoor.RfKit
open Go Go.RowKit Go.Proofs.YtlleandelcjhjaaDoor.K Go.Proofs.YtlleandelcjhjaaDoor.ArrKit Go.Proofs.YtlleandelcjhjaaDoor.HeldKit Go.Proofs.YtlleandelcjhjaaDoor.GKit Go.Proofs.YtlleandelcjhjaaDoor.GRow
section
variable {F : Fence} {n : Nat} {P : Program} {ops : Array Oper} {rest : List Oper} {o : Oper} {a : Act} {w : World} {Q : Exit → Act → World → Prop}
theorem wpListIn_load_mid (hgd : o.guard = none) (ty : TypeId) (x : Operand) (ho : o.op = .load ty x)
    (b of : Nat) (hx : a.eval x = .pointer (some ⟨b, of, none⟩)) (cs : List Value) (d : TypeDesc) (hc : w.rangeAt b of cs)
    (hu : P.underlying ty = some d) (hd : d.isRow = true) (hi : (P.info? ty).map (·.size) = some cs.length)
    (h : wpListIn F n P ops Q rest (a.put o.dst (.agg cs.toArray)) w) : wpListIn F n P ops Q (o :: rest) a w := by
  refine wpListIn_plain hgd fun K hK => ?_
  unfold Oper.wpIn
  refine ⟨?_, ?_⟩
  · simp [Oper.about, ho]
  · rw [Oper.semAt_plain F _ _ (by rw [ho]; intro c hc; cases hc)]
    unfold execOp
    simp only [ho, hx, Instr.loadAt, Instr.sureAddr, Sem.run_bind, Sem.run_pure, Result.andThen_ok, run_loadVar_mid w b of ty cs d hc hu hd hi]
    exact hK _ _ h
theorem wpListIn_store_row (hgd : o.guard = none) (ty : TypeId) (x y : Operand) (ho : o.op = .store ty x y)
    (g : Nat) (cells : Array Value) (hx : a.eval x = .pointer (some ⟨g, 0, none⟩)) (hy : a.eval y = .agg cells)
    (t : TypeId) (old : Array Value) (hg : w.heap[g]? = some (.cells old t (0, 0))) (hi : (P.info? ty).map (·.size) = some cells.size)
    (hold : old.size = cells.size) (h1 : cells.all (·.oneCell') = true)
    (h : wpListIn F n P ops Q rest (a.put o.dst undef) (w.setRow g cells)) : wpListIn F n P ops Q (o :: rest) a w := by
  refine wpListIn_plain hgd fun K hK => ?_
  unfold Oper.wpIn
  refine ⟨?_, ?_⟩
  · simp [Oper.about, ho]
  · rw [Oper.semAt_plain F _ _ (by rw [ho]; intro c hc; cases hc)]
    unfold execOp
    simp only [ho, hx, hy, Instr.storeAt, Instr.sureAddr, Sem.run_bind, Sem.run_pure, Result.andThen_ok, run_storeVar_row w g t ty old cells hg hi hold h1]
    exact hK _ _ h
end
def upto {α : Type} (f : Nat → α) (k : Nat) : List α := (List.range k).map f
theorem upto_succ {α : Type} (f : Nat → α) (k : Nat) : upto f (k + 1) = upto f k ++ [f k] := by simp [upto, List.range_succ]
theorem upto_length {α : Type} (f : Nat → α) (k : Nat) : (upto f k).length = k := by simp [upto]
theorem below_own {n₀ : Nat} {W₁ W W' : World} {row : Option Nat} (h : Below n₀ W₁ W) (hg : W.grownBy W' row) (hn : n₀ ≤ W₁.heap.size) (hr : ∀ r, row = some r → n₀ ≤ r ∧ ∃ o : Obj, W.heap[r]? = some o ∧ o.isCells = false) : Below n₀ W₁ W' :=
  h.grown hg (Nat.le_trans hn h.size) (fun k e => (hr k e).1)
theorem grownBy_row (w : World) (g : Nat) (cs : Array Value) : w.grownBy (w.setRow g cs) (some g) := ⟨rfl, rfl, rfl, by rw [size_setRow]; exact Nat.le_refl _, fun k _ hk => setRow_other w g k _ (fun e => hk (by rw [e]))⟩
theorem below_row {n₀ : Nat} {w w1 : World} (h : Below n₀ w w1) (g : Nat) (cs : Array Value) (hg : n₀ ≤ g) : Below n₀ w (w1.setRow g cs) :=
  ⟨h.os, h.tape, h.output, by rw [size_setRow]; exact h.size, fun i hi => (setRow_other w1 g i cs (by omega)).trans (h.block i hi)⟩
theorem below_heap {n₀ : Nat} {w w1 : World} (h : Below n₀ w w1) {g : Nat} {o : Obj} (hg : w.heap[g]? = some o) (hn : g < n₀) : w1.heap[g]? = some o := (h.block g hn).trans hg
end Go.Proofs.YtlleandelcjhjaaDoor.RfKit
namespace Go.Proofs.YtlleandelcjhjaaDoor.DiskBack
open Go Go.RowKit Go.Proofs.YtlleandelcjhjaaDoor.K Go.Proofs.YtlleandelcjhjaaDoor.EqKit Go.Proofs.YtlleandelcjhjaaDoor.ArrKit Go.Proofs.YtlleandelcjhjaaDoor.HeldKit Go.Proofs.YtlleandelcjhjaaDoor.GKit Go.Proofs.YtlleandelcjhjaaDoor.GRow Go.Proofs.YtlleandelcjhjaaDoor.DiskKit Go.Proofs.YtlleandelcjhjaaDoor.RfKit Go.Proofs.YtlleandelcjhjaaDoor.DiskAsk Go.Proofs.YtlleandelcjhjaaDoor.DiskForm Go.Proofs.YtlleandelcjhjaaDoor.DiskAct Go.Proofs.YtlleandelcjhjaaDoor.DiskNew Go.Proofs.YtlleandelcjhjaaDoor.DiskCopy Go.Proofs.YtlleandelcjhjaaDoor.DiskRRead Go.Shelf
attribute [local go_sem] Oper.semAt_some
/-- what comes in round j -/
abbrev WX := { x : Nat × Wri // x.2.ok }
theorem getD_ok {C : List Wri} (h : ∀ x ∈ C, x.ok) (i : Nat) : (C.getD i ⟨0, Z128⟩).ok := by
  rw [List.getD_eq_getElem?_getD]
  by_cases hi : i < C.length
  · rw [List.getElem?_eq_getElem hi]; exact h _ (List.getElem_mem hi)
  · rw [List.getElem?_eq_none (by omega)]; exact ⟨by simp [Z128], by decide⟩
def fB (C : List Wri) (hok : ∀ x ∈ C, x.ok) (j : Nat) : WX := ⟨(C.length - 1 - j, C.getD (C.length - 1 - j) ⟨0, Z128⟩), getD_ok hok _⟩
def encB (x : WX) : Array Value := #[.int .i64 (x.1.1 : Int), .agg x.1.2.cells.toArray]
/-- between two rounds -/
def BRel (C : List Wri) (hok : ∀ x ∈ C, x.ok) (J : List WX → World → Prop) (n₀ : Nat) (W : World) (i : Value) (wr : World) : Prop :=
  (∃ k m : Nat, k + m + 1 = C.length ∧ i = .int .i64 m ∧ J (upto (fB C hok) k) wr ∧ Below n₀ W wr) ∨ (i = .int .i64 (-1) ∧ J (upto (fB C hok) C.length) wr ∧ Below n₀ W wr)
theorem BRel.start (C : List Wri) (hok : ∀ x ∈ C, x.ok) (J : List WX → World → Prop) (n₀ : Nat) (W : World) (h0 : J [] W) : BRel C hok J n₀ W (.int .i64 ((C.length : Int) - 1)) W := by
  cases h : C.length with
  | zero => exact .inr ⟨rfl, by rw [h]; exact h0, Below.refl _ _⟩
  | succ m => exact .inl ⟨0, m, by omega, by rw [show ((m + 1 : Nat) : Int) - 1 = (m : Int) by omega], h0, Below.refl _ _⟩
theorem BRel.next {C : List Wri} {hok : ∀ x ∈ C, x.ok} {J : List WX → World → Prop} {n₀ : Nat} {W wr : World} {k m : Nat} (hk : k + m + 1 = C.length) (hJ : J (upto (fB C hok) k ++ [fB C hok k]) wr) (hB : Below n₀ W wr) : BRel C hok J n₀ W (.int .i64 ((m : Int) - 1)) wr := by
  rw [← upto_succ] at hJ
  cases m with
  | zero => exact .inr ⟨rfl, by rw [show C.length = k + 1 by omega]; exact hJ, hB⟩
  | succ m => exact .inl ⟨k + 1, m, by omega, by rw [show ((m + 1 : Nat) : Int) - 1 = (m : Int) by omega], hJ, hB⟩
theorem fB_at {C : List Wri} (hok : ∀ x ∈ C, x.ok) {k m : Nat} (hk : k + m + 1 = C.length) : fB C hok k = ⟨(m, C[m]), hok _ (List.getElem_mem (by omega))⟩ := by
  have : C.length - 1 - k = m := by omega
  apply Subtype.ext
  show (C.length - 1 - k, C.getD (C.length - 1 - k) ⟨0, Z128⟩) = _
  rw [this, List.getD_eq_getElem?_getD, List.getElem?_eq_getElem (by omega)]; rfl
set_option maxRecDepth 100000 in
set_option maxHeartbeats 2000000 in
theorem back1_in (n : Nat) (hn : 1 ≤ n) (l Bs n₀ : Nat) (ca : Option Addr) (cc : Nat) (C : List Wri) (hok : ∀ x ∈ C, x.ok) (hcn : C.length ≤ cc) (hcm : cc ≤ 9223372036854775807) (J Jx : List WX → World → Prop)
    (hY : ∀ pre x W, J pre W → pre.length < C.length → YieldAt Fence.wide (n - 1) Tryd.prog l (encB x) W fun e W' =>
      (e = .returned (.bool true) ∧ J (pre ++ [x]) W' ∧ Below n₀ W W') ∨ (e = .returned (.bool false) ∧ Jx (pre ++ [x]) W'))
    (W : World) (hBs : W.cell? ⟨Bs, 0, none⟩ = some (.slice ca C.length cc)) (hB0 : Bs < n₀) (hrc : RdC W ca C) (hcb : ∀ a, ca = some a → C ≠ [] → a.block < n₀) (h0 : J [] W) :
    CallsIn Fence.wide n Tryd.prog 86 #[.func (.yield l) #[] #[], .pointer (some ⟨Bs, 0, none⟩)] W fun e W' => (∃ v, e = .returned v) ∧
      ((∃ ys, ys = upto (fB C hok) C.length ∧ J ys W') ∨ (∃ pre, (∃ k, k ≤ C.length ∧ pre = upto (fB C hok) k) ∧ Jx pre W')) := by
  have HOK := Lib.hid hok
  have HRC := Lib.hid hrc
  have HCB := Lib.hid hcb
  clear hrc hcb
  refine callsIn_of_wp Tryd.func86 rfl trivial ?_ rfl
  simp only [Tryd.ntmps86, List.size_toArray, List.length_cons, List.length_nil, Nat.reduceAdd, Nat.reduceSub, Array.replicate_succ, Array.replicate_zero, List.push_toArray, List.append_toArray, List.nil_append, List.cons_append]
  gi_wp2
  gi_loopw [3] (fun i wr => BRel C hok J n₀ W i wr) (fun i _ => (intOf i + 1).toNat)
  case atStart => exact BRel.start C hok J n₀ W h0
  case round =>
    rcases hrel with ⟨k, m, hk, rfl, hJs, hnx⟩ | ⟨rfl, hJs, hnx⟩
    · have hm : m < C.length := by omega
      have hfb : fB C hok k = ⟨(m, C[m]'hm), hok _ (List.getElem_mem hm)⟩ := fB_at hok hk
      obtain ⟨b, o, rfl, hrg⟩ := HRC.out m hm
      have hbn : b < n₀ := HCB.out _ rfl (by intro e; subst e; simp at hm)
      have HRG : Hid (wr.rangeAt b (o + m * 129) C[m].cells) := Lib.hid (fun j u hj => (hnx.cell (p := ⟨b, _, none⟩) hbn).trans (hrg j u hj))
      have HX := Lib.hid (HOK.out _ (List.getElem_mem hm))
      have HIX : Hid ((Tryd.prog.info? 79).map (·.size) = some C[m].cells.length) := Lib.hid (by rw [Wri.leng HX.out, info_w])
      have hbs : wr.cell? ⟨Bs, 0, none⟩ = some (.slice (some ⟨b, o, none⟩) C.length cc) := (hnx.cell (p := ⟨Bs, 0, none⟩) hB0).trans hBs
      obtain ⟨fn, tmps, assign, body, hy, hR⟩ := hY _ ⟨(m, C[m]'hm), hok _ (List.getElem_mem hm)⟩ wr hJs (by rw [upto_length]; omega)
      simp only [encB] at hy
      have HK := Lib.hid hk
      have HFB := Lib.hid hfb
      have HNX := Lib.hid hnx
      clear hk hfb hrg hnx hBs
      gi_wp2_with (first | ((with_reducible show wpListIn _ _ _ _ _ ({ dst := _, op := Op.load 79 _, type := _, pos := _, after := _, guard := _ } :: _) _ _); refine wpListIn_load_mid rfl 79 _ rfl b (o + m * 129) rfl C[m].cells _ HRG.out Tryd.underlying79 rfl HIX.out ?_))
      refine hR.mono ?_
      rintro e W3 (⟨rfl, hJ3, hk3⟩ | ⟨rfl, hJx3⟩)
      · have HJ3 := Lib.hid hJ3
        have HK3 := Lib.hid hk3
        clear hJ3 hk3
        gi_wp2
        go_roundw
        case rel => exact BRel.next HK.out (by rw [HFB.out]; exact HJ3.out) (HNX.out.trans HK3.out)
        case measure => simp [intOf] <;> omega
      · gi_wp2
        refine bodyPost_ret (results_none rfl _ _ _) rfl ?_
        have := HK.out
        exact ⟨⟨_, rfl⟩, .inr ⟨_, ⟨k + 1, by omega, by rw [upto_succ, HFB.out]⟩, hJx3⟩⟩
    · gi_wp2
      go_end0
      exact ⟨⟨_, rfl⟩, .inl ⟨_, rfl, hJs⟩⟩
set_option maxHeartbeats 1000000 in
theorem back_in (n : Nat) (a : Option Addr) (len cap : Nat) (w : World) :
    Calls Tryd.prog 70 #[.slice a len cap] w fun e w' => e = .returned (.func (.func 86) #[] #[.pointer (some ⟨w.heap.size, 0, none⟩)]) ∧ w' = w.alloc (.cells #[.slice a len cap] 37) := by
  have hmf : ∀ (fn : Fn) (first cap : Array Value) (W : World), (Instr.makeFunc fn first cap).run Tryd.prog W = .ok (.func fn first cap) W := fun _ _ _ _ => rfl
  go_enter Tryd.func70, Tryd.ntmps70
  go_wp2
  go_ret
  exact ⟨rfl, rfl⟩
theorem back_stops (n : Nat) (hn : 1 ≤ n) (Bs n₀ : Nat) (ca : Option Addr) (cc : Nat) (C : List Wri) (hok : ∀ x ∈ C, x.ok) (hcn : C.length ≤ cc) (hcm : cc ≤ 9223372036854775807) (w : World) (hBs : Bs < n₀) (hn₀ : n₀ ≤ w.heap.size)
    (hc : w.cell? ⟨Bs, 0, none⟩ = some (.slice ca C.length cc)) (hrc : RdC w ca C) (hcb : ∀ a, ca = some a → C ≠ [] → a.block < n₀) :
    SeqStopsK Fence.wide n Tryd.prog 86 #[.pointer (some ⟨Bs, 0, none⟩)] encB (Below n₀) (fun ys => ys = upto (fB C hok) C.length) (fun pre => ∃ k, k ≤ C.length ∧ pre = upto (fB C hok) k) C.length w := fun l J Jx W hW _ _ hY h0 => by
  have hW' := hW.mono hn₀
  have hc' := (hW'.cell (p := ⟨Bs, 0, none⟩) hBs).trans hc
  refine back1_in n hn l Bs n₀ ca cc C hok hcn hcm J Jx hY W hc' hBs (RdG.keep hrc ⟨hW.os, hW.tape, hW.output, hW.size, fun i hi _ => hW.block i hi⟩) hcb h0

end Go.Proofs.YtlleandelcjhjaaDoor.DiskBack
