/- The theorems that the claim uses, text behind text (part 6). -/
import Derived.Test.YtmkmpfnadcmcoaaGreatDoorYad
import Derived.Test.YtmkmpfnadcmcoaaGreatDoorYae
set_option maxRecDepth 100000
set_option maxHeartbeats 8000000
set_option linter.unusedVariables false
set_option linter.unusedSimpArgs false
namespace Go.Proofs.YtmkmpfnadcmcoaaGreatDoor.RmRRight
open Go Go.RowKit K EqKit ArrKit HeldKit GKit GRow DiskKit RmKit MapKit RmRight
theorem rright_no (m : Rm) (a : Option Addr) (c : Nat) (s : Int) (w : World) (hs : (Lit.int .i64 s).wf = true) (hn : half s = 0 ∨ m.gen < 0 ∨ 4611686018427387904 < m.gen ∨ 20 < m.ps.length) : Calls Tryz.prog 46 #[.agg (rval m a c), .int .i64 s] w fun e w' => e = .returned (.bool false) ∧ Fr0 w w' := by
 have HX : Jq7 (Bk (w.alloc (.cells (rval m a c) 28)) w.heap.size (rval m a c) 28) := jq7 (Bk.new w _)
 have c0 : (w.alloc (.cells (rval m a c) 28)).cell? ⟨w.heap.size, 0, none⟩ = some (.int .i64 m.gen) := Bk.cell HX.o 0
 have c1 : (w.alloc (.cells (rval m a c) 28)).cell? ⟨w.heap.size, 1, none⟩ = some (.slice a m.ps.length c) := Bk.cell HX.o 1
 have HHF : Jq7 (∀ W, Calls Tryz.prog 48 #[.int .i64 s] W fun e w' => e = .returned (.int .i64 (half s)) ∧ w' = W) := jq7 (fun W => rhalf_calls s W hs)
 clear HX
 generalize rval m a c = X at *
 by_cases h1 : half s = 0
 ·rw [h1] at HHF
  clear hn h1
  go_enter Tryz.func46, Tryz.ntmps46
  go_wp2_with (first | (go_at_call 48;(with_reducible refine (HHF.o _).mono ?_);rintro e w1 ⟨rfl, rfl⟩))
  go_ret
  exact ⟨rfl, Fr.alloc (Fr.refl _ _) _⟩
 have hr := half_range s
 have h1b : (half s == 0) = false := by simpa using h1
 by_cases h2 : m.gen < 0
 ·clear hn
  go_enter Tryz.func46, Tryz.ntmps46
  go_wp2_with (first | (go_at_call 48;(with_reducible refine (HHF.o _).mono ?_);rintro e w1 ⟨rfl, rfl⟩))
  go_ret
  exact ⟨rfl, Fr.alloc (Fr.refl _ _) _⟩
 by_cases h3 : 4611686018427387904 < m.gen
 ·clear hn
  go_enter Tryz.func46, Tryz.ntmps46
  go_wp2_with (first | (go_at_call 48;(with_reducible refine (HHF.o _).mono ?_);rintro e w1 ⟨rfl, rfl⟩))
  go_ret
  exact ⟨rfl, Fr.alloc (Fr.refl _ _) _⟩
 ·have h4 : 20 < m.ps.length := by omega
  clear hn
  go_enter Tryz.func46, Tryz.ntmps46
  go_wp2_with (first | (go_at_call 48;(with_reducible refine (HHF.o _).mono ?_);rintro e w1 ⟨rfl, rfl⟩))
  go_ret
  exact ⟨rfl, Fr.alloc (Fr.refl _ _) _⟩

theorem rright_loop (m : Rm) (a : Option Addr) (c : Nat) (s : Int) (w : World) (hok : m.ok) (hv : RV w m a c) (hs : (Lit.int .i64 s).wf = true) (h1 : half s ≠ 0) (h2 : 0 ≤ m.gen) (h3 : m.gen ≤ 4611686018427387904) (h4 : m.ps.length ≤ 20) : Calls Tryz.prog 46 #[.agg (rval m a c), .int .i64 s] w fun e w' => e = .returned (.bool ((List.range m.ps.length).all (stepB (half s) s m.ps))) ∧ Fr0 w w' := by
 have HX : Jq7 (Bk (w.alloc (.cells (rval m a c) 28)) w.heap.size (rval m a c) 28) := jq7 (Bk.new w _)
 have c0 : (w.alloc (.cells (rval m a c) 28)).cell? ⟨w.heap.size, 0, none⟩ = some (.int .i64 m.gen) := Bk.cell HX.o 0
 have c1 : (w.alloc (.cells (rval m a c) 28)).cell? ⟨w.heap.size, 1, none⟩ = some (.slice a m.ps.length c) := Bk.cell HX.o 1
 have HHF : Jq7 (∀ W, Calls Tryz.prog 48 #[.int .i64 s] W fun e w' => e = .returned (.int .i64 (half s)) ∧ w' = W) := jq7 (fun W => rhalf_calls s W hs)
 have hl := half_lo h1
 have HV := jq7 hv
 have HPW := jq7 hok.p
 have hzp := zero_pr
 have HF0 : Jq7 (Fr0 w (w.alloc (.cells (rval m a c) 28))) := jq7 (Fr.alloc (Fr.refl _ _) _)
 clear hv hok
 have p0 : (rval m a c)[0]? = some (.int .i64 m.gen) := rfl
 have p1 : (rval m a c)[1]? = some (.slice a m.ps.length c) := rfl
 have h2b : decide (m.gen < 0) = false := decide_eq_false (by omega)
 have h3b : decide (4611686018427387904 < m.gen) = false := decide_eq_false (by omega)
 have h4b : decide (20 < (m.ps.length : Int)) = false := decide_eq_false (by omega)
 have P1 := jq7 p1
 generalize rval m a c = X at *
 have h1b : (half s == 0) = false := by simpa using h1
 generalize hH : half s = h at *
 clear hH
 go_enter Tryz.func46, Tryz.ntmps46
 go_wp2_with (first | (go_at_call 48;(with_reducible refine (HHF.o _).mono ?_);rintro e w1 ⟨rfl, rfl⟩))
 clear c0 c1 p0 p1
 generalize w.alloc (.cells X 28) = w5 at *
 go_loopw [6] (fun jj W => ∃ j : Nat, j ≤ m.ps.length ∧ jj = .int .i64 j ∧ (∀ i, i < j → stepB h s m.ps i = true) ∧ Bk W w.heap.size X 28 ∧ Fr0 w W) (fun jj _ => m.ps.length - (intOf jj).toNat)
 case atStart => exact ⟨0, Nat.zero_le _, rfl, fun i hi => by omega, HX.o, HF0.o⟩
 case round =>
  obtain ⟨j, hj, rfl, hst, hxb, hF⟩ := hrel
  have cx : wr.cell? ⟨w.heap.size, 1, none⟩ = some (.slice a m.ps.length c) := (Bk.cell hxb 1).trans P1.o
  by_cases hjl : j < m.ps.length
  ·obtain ⟨b2, o2, rfl, hat⟩ := RdP.form HV.o.rd hjl
   have hrg := hat _ (HV.o.rd.keep hF)
   have HRG := jq7 hrg.1
   have hgd : m.ps.getD j (0, 0) = m.ps[j] := by rw [List.getD_eq_getElem?_getD, List.getElem?_eq_getElem hjl];rfl
   have hsb : Jq7 (stepB h s m.ps j = (pok h s m.ps[j] && !(((m.ps.take j).map (·.1)).contains m.ps[j].1) && !(((m.ps.take j).map (·.2)).contains m.ps[j].2))) := jq7 (by unfold stepB;rw [hgd])
   have HWF := jq7 (HPW.o _ (List.getElem_mem hjl))
   clear hat hrg hgd
   generalize m.ps[j] = p at *
   obtain ⟨pf, pt⟩ := p
   have HST := jq7 hst
   have HZR := jq7 (Bk.new wr (.cells PZ2 70))
   have hf6 : Fr0 wr ((wr.alloc (.cells PZ2 70)).setRow wr.heap.size (PR (pf, pt)).toArray) := ArrKit.Fr.row (Fr.alloc (Fr.refl _ _) _) _ _ (.inl (Nat.le_refl _))
   have HB6 := jq7 (ArrKit.Bk.row HZR.o (PR (pf, pt)).toArray)
   have HF6 := jq7 (hF.then0 hf6)
   have HX6 := jq7 (hf6.keep hxb (fun h => h))
   have HUS : Jq7 (∀ W, Calls Tryz.prog 49 #[.int .i64 pf, .int .i64 h] W fun e w' => e = .returned (.bool (usableB pf h)) ∧ w' = W) := jq7 (fun W => rusable_calls pf h W HWF.o.1 (by omega))
   have d0 : ((wr.alloc (.cells PZ2 70)).setRow wr.heap.size (PR (pf, pt)).toArray).cell? ⟨wr.heap.size, 0, none⟩ = some (.int .i64 pf) := Bk.cell HB6.o 0
   have d1 : ((wr.alloc (.cells PZ2 70)).setRow wr.heap.size (PR (pf, pt)).toArray).cell? ⟨wr.heap.size, 1, none⟩ = some (.int .i64 pt) := Bk.cell HB6.o 1
   clear hst hxb hF hf6
   unfold pok at hsb
   by_cases hu : usableB pf h = true
   case neg =>
    have hu : usableB pf h = false := by simpa using hu
    rw [hu] at HUS
    have HNO : Jq7 (stepB h s m.ps j = false) := jq7 (by rw [hsb.o, hu];simp)
    clear hsb
    go_wp2_with (first | ((with_reducible show wkq (.load 70 _) _);refine wpList_load_mid rfl 70 _ rfl b2 (o2 + j * 2) rfl (PR (pf, pt)) _ HRG.o Tryz.underlying70 rfl (info_pr _) ?_) | ((with_reducible show wkq (.store 70 _ _) _);refine wpList_store_row rfl 70 _ _ rfl wr.heap.size (PR (pf, pt)).toArray rfl rfl 70 PZ2 HZR.o (info_pr2 _) rfl (PR_all _) ?_) | (go_at_call 49;(with_reducible refine (HUS.o _).mono ?_);rintro e w7 ⟨rfl, rfl⟩))
    go_ret
    exact ⟨by rw [all_no hjl HNO.o];rfl, HF6.o⟩
   rw [hu] at HUS hsb
   by_cases ht1 : pt < 2 * h
   ·have e1 : decide (pt < 2 * h) = true := decide_eq_true ht1
    have e2 : decide (2 * h ≤ pt) = false := decide_eq_false (by omega)
    have HNO : Jq7 (stepB h s m.ps j = false) := jq7 (by rw [hsb.o, e2];simp)
    clear hsb
    go_wp2_with (first | ((with_reducible show wkq (.load 70 _) _);refine wpList_load_mid rfl 70 _ rfl b2 (o2 + j * 2) rfl (PR (pf, pt)) _ HRG.o Tryz.underlying70 rfl (info_pr _) ?_) | ((with_reducible show wkq (.store 70 _ _) _);refine wpList_store_row rfl 70 _ _ rfl wr.heap.size (PR (pf, pt)).toArray rfl rfl 70 PZ2 HZR.o (info_pr2 _) rfl (PR_all _) ?_) | (go_at_call 49;(with_reducible refine (HUS.o _).mono ?_);rintro e w7 ⟨rfl, rfl⟩))
    go_ret
    exact ⟨by rw [all_no hjl HNO.o];rfl, HF6.o⟩
   have e1 : decide (pt < 2 * h) = false := decide_eq_false ht1
   have e2 : decide (2 * h ≤ pt) = true := decide_eq_true (by omega)
   rw [e2] at hsb
   by_cases ht2 : s ≤ pt
   ·have e3 : decide (2 * h + 20 ≤ pt) = true := decide_eq_true (by omega)
    have e4 : decide (pt < s) = false := decide_eq_false (by omega)
    have HNO : Jq7 (stepB h s m.ps j = false) := jq7 (by rw [hsb.o, e4];simp)
    clear hsb
    go_wp2_with (first | ((with_reducible show wkq (.load 70 _) _);refine wpList_load_mid rfl 70 _ rfl b2 (o2 + j * 2) rfl (PR (pf, pt)) _ HRG.o Tryz.underlying70 rfl (info_pr _) ?_) | ((with_reducible show wkq (.store 70 _ _) _);refine wpList_store_row rfl 70 _ _ rfl wr.heap.size (PR (pf, pt)).toArray rfl rfl 70 PZ2 HZR.o (info_pr2 _) rfl (PR_all _) ?_) | (go_at_call 49;(with_reducible refine (HUS.o _).mono ?_);rintro e w7 ⟨rfl, rfl⟩))
    go_ret
    exact ⟨by rw [all_no hjl HNO.o];rfl, HF6.o⟩
   have e3 : decide (2 * h + 20 ≤ pt) = false := decide_eq_false (by omega)
   have e4 : decide (pt < s) = true := decide_eq_true (by omega)
   rw [e4] at hsb
   go_wp2_with (first | ((with_reducible show wkq (.load 70 _) _);refine wpList_load_mid rfl 70 _ rfl b2 (o2 + j * 2) rfl (PR (pf, pt)) _ HRG.o Tryz.underlying70 rfl (info_pr _) ?_) | ((with_reducible show wkq (.store 70 _ _) _);refine wpList_store_row rfl 70 _ _ rfl wr.heap.size (PR (pf, pt)).toArray rfl rfl 70 PZ2 HZR.o (info_pr2 _) rfl (PR_all _) ?_) | (go_at_call 49;(with_reducible refine (HUS.o _).mono ?_);rintro e w7 ⟨rfl, rfl⟩))
   clear e1 e2 e3 e4 HUS HZR HRG hu d0 d1
   generalize wr.heap.size = gp at *
   generalize (wr.alloc (.cells PZ2 70)).setRow gp (PR (pf, pt)).toArray = w6 at *
   go_loopw [8] (fun kk W => ∃ k : Nat, k ≤ j ∧ kk = .int .i64 k ∧ (∀ q (hq : q < k), (m.ps.getD q (0, 0)).1 ≠ pf ∧ (m.ps.getD q (0, 0)).2 ≠ pt) ∧ Fr0 w6 W) (fun kk _ => j - (intOf kk).toNat)
   case atStart => exact ⟨0, Nat.zero_le _, rfl, fun q hq => by omega, Fr.refl _ _⟩
   case round =>
    obtain ⟨k, hk, rfl, hno, hF2⟩ := hrel
    have HNN := jq7 hno
    have HF2 := jq7 hF2
    have hb2 := hF2.keep HB6.o (fun h => h)
    have hx2 := hF2.keep HX6.o (fun h => h)
    clear hno
    by_cases hkl : k < j
    ·have hkl2 : k < m.ps.length := by omega
     obtain ⟨b3, o3, e3, hat⟩ := RdP.form HV.o.rd hkl2
     cases e3
     have hrg := hat _ ((HV.o.rd.keep HF6.o).keep hF2)
     have f0 := hrg.2.1
     have f1 := hrg.2.2
     have hgd : m.ps.getD k (0, 0) = m.ps[k] := by rw [List.getD_eq_getElem?_getD, List.getElem?_eq_getElem hkl2];rfl
     have HGD := jq7 hgd
     have HMM : Jq7 (m.ps[k] ∈ m.ps.take j) := jq7 (by rw [List.mem_iff_getElem];exact ⟨k, by rw [List.length_take];omega, List.getElem_take ..⟩)
     have g0 : wr.cell? ⟨gp, 0, none⟩ = some (.int .i64 pf) := Bk.cell hb2 0
     have g1 : wr.cell? ⟨gp, 1, none⟩ = some (.int .i64 pt) := Bk.cell hb2 1
     have gx : wr.cell? ⟨w.heap.size, 1, none⟩ = some (.slice (some ⟨b2, o2, none⟩) m.ps.length c) := (Bk.cell hx2 1).trans P1.o
     clear hat hrg hgd hb2 hx2 hF2
     generalize m.ps[k] = pk at *
     obtain ⟨kf, kt⟩ := pk
     simp only at f0 f1
     by_cases ef : kf = pf
     ·subst ef
      have HNO : Jq7 (stepB h s m.ps j = false) := jq7 (by rw [hsb.o, show ((m.ps.take j).map (·.1)).contains kf = true from List.contains_iff_mem.2 (List.mem_map.2 ⟨_, HMM.o, rfl⟩)];simp)
      clear hsb
      go_wp2
      go_quiet (fail)
      go_wp2
      go_ret
      exact ⟨by rw [all_no hjl HNO.o];rfl, Fr.drewN (HF6.o.then0 HF2.o) nq⟩
     ·have ef1 : (kf == pf) = false := by simpa using ef
      by_cases et : kt = pt
      ·subst et
       have HNO : Jq7 (stepB h s m.ps j = false) := jq7 (by rw [hsb.o, show ((m.ps.take j).map (·.2)).contains kt = true from List.contains_iff_mem.2 (List.mem_map.2 ⟨_, HMM.o, rfl⟩)];simp)
       clear hsb ef
       go_wp2
       go_quiet (fail)
       go_wp2
       go_ret
       exact ⟨by rw [all_no hjl HNO.o];rfl, Fr.drewN (HF6.o.then0 HF2.o) nq⟩
      ·have et1 : (kt == pt) = false := by simpa using et
       have HEF := jq7 ef
       have HET := jq7 et
       clear ef et
       go_wp2
       go_quiet (fail)
       go_wp2
       go_roundw
       case rel => exact ⟨k + 1, by omega, by go_num, fun q hq => by
         rcases Nat.lt_or_ge q k with h | h
         ·exact HNN.o q h
         ·obtain rfl : q = k := by omega
          rw [HGD.o];exact ⟨HEF.o, HET.o⟩, Fr.drewN HF2.o nq⟩
       case measure => simp [intOf];omega
    ·have hkj : k = j := by omega
     subst hkj
     have HYES : Jq7 (stepB h s m.ps k = true) := jq7 (by
      have n1 : ((m.ps.take k).map (·.1)).contains pf = false := by
       rw [Bool.eq_false_iff]
       intro hc
       obtain ⟨y, hy, e⟩ := List.mem_map.1 (List.contains_iff_mem.1 hc)
       obtain ⟨q, hq, rfl⟩ := List.mem_iff_getElem.1 hy
       rw [List.length_take] at hq
       have := (HNN.o q (by omega)).1
       rw [List.getD_eq_getElem?_getD, List.getElem?_eq_getElem (by omega)] at this
       rw [List.getElem_take] at e
       exact this e
      have n2 : ((m.ps.take k).map (·.2)).contains pt = false := by
       rw [Bool.eq_false_iff]
       intro hc
       obtain ⟨y, hy, e⟩ := List.mem_map.1 (List.contains_iff_mem.1 hc)
       obtain ⟨q, hq, rfl⟩ := List.mem_iff_getElem.1 hy
       rw [List.length_take] at hq
       have := (HNN.o q (by omega)).2
       rw [List.getD_eq_getElem?_getD, List.getElem?_eq_getElem (by omega)] at this
       rw [List.getElem_take] at e
       exact this e
      rw [hsb.o, n1, n2];rfl)
     have HX2 := jq7 hx2
     clear hsb hb2 hx2 hF2
     go_wp2
     go_roundw
     case rel => exact ⟨k + 1, by omega, by go_num, fun i hi => by
       rcases Nat.lt_or_ge i k with h | h
       ·exact HST.o i h
       ·obtain rfl : i = k := by omega
        exact HYES.o, HX2.o, HF6.o.then0 HF2.o⟩
     case measure => simp [intOf];omega
  ·have hje : j = m.ps.length := by omega
   subst hje
   have HST := jq7 hst
   have HF := jq7 hF
   clear hst hF hxb
   go_wp2
   go_ret
   exact ⟨by rw [all_yes HST.o];rfl, HF.o⟩

theorem rright_calls (m : Rm) (a : Option Addr) (c : Nat) (s : Int) (w : World) (hok : m.ok) (hv : RV w m a c) (hs : (Lit.int .i64 s).wf = true) : Calls Tryz.prog 46 #[.agg (rval m a c), .int .i64 s] w fun e w' => e = .returned (.bool (tabB m s)) ∧ Fr0 w w' := by
 by_cases h : half s = 0 ∨ m.gen < 0 ∨ 4611686018427387904 < m.gen ∨ 20 < m.ps.length
 ·have e : tabB m s = false := by
   unfold tabB
   rcases h with h | h | h | h
   ·simp [h]
   ·rw [decide_eq_false (p := 0 ≤ m.gen) (by omega)];simp
   ·rw [decide_eq_false (p := m.gen ≤ 4611686018427387904) (by omega)];simp
   ·rw [decide_eq_false (p := m.ps.length ≤ 20) (by omega)];simp
  rw [e]
  exact rright_no m a c s w hs h
 ·have h1 : half s ≠ 0 := fun e => h (.inl e)
  have e : tabB m s = (List.range m.ps.length).all (stepB (half s) s m.ps) := by
   unfold tabB
   rw [decide_eq_true h1, decide_eq_true (p := 0 ≤ m.gen) (by omega), decide_eq_true (p := m.gen ≤ 4611686018427387904) (by omega), decide_eq_true (p := m.ps.length ≤ 20) (by omega)]
   simp
  rw [e]
  exact rright_loop m a c s w hok hv hs h1 (by omega) (by omega) (by omega)

end Go.Proofs.YtmkmpfnadcmcoaaGreatDoor.RmRRight
namespace Go.Proofs.YtmkmpfnadcmcoaaGreatDoor.DiskRLay
open Go Go.RowKit K EqKit ArrKit HeldKit GKit GRow DiskKit DiskAsk DiskForm DiskAct DiskNew DiskCopy DiskLay DiskFlush
theorem rangeAt_fr {S : Nat → Prop} {w w' : World} {b o : Nat} {cs : List Value} (h : w.rangeAt b o cs) (f : Fr S w w') (hs : ¬ S b) : w'.rangeAt b o cs := fun j u hj => by
 have hc := h j u hj
 rw [f.cell b (o + j) (World.block_lt_of_cell? w _ hc) hs]
 exact hc

theorem rlay_all_calls (p : Nat) (d : Dk) (sa : Option Addr) (sc : Nat) (ca : Option Addr) (cc : Nat) (w : World) (hok : d.ok) (hv : DAt w p d sa sc ca cc) (hr : formedB d = true)  : Calls Tryz.prog 95 #[.pointer (some ⟨p, 0, none⟩), .bool true, .slice none 0 0] w fun e w' => (∃ v, e = .returned v) ∧ Laid w w' p (layD d (fun _ => true)) := by
 have hfm := formed_parts hr
 have HV := jq7 hv
 have HOK := jq7 hok
 have hcn := hv.v.cn
 have hcm := hv.v.cm
 have hn1 := hfm.1
 have hn2 := hfm.2.1
 have HPOS := jq7 hfm.2.2
 have hpw : p < w.heap.size := Bk.lt hv.blk
 obtain ⟨i0, hi, hz0, hz1, hz2⟩ := info_parts infoS
 have HI : Jq7 (Tryz.prog.info? 66 = some i0 ∧ i0.zero = some (.agg ZSC) ∧ i0.size = 130 ∧ i0.bytes = 130) := jq7 ⟨hi, hz0, hz1, hz2⟩
 clear hi hz0 hz1 hz2
 clear hv hok hr hfm
 obtain ⟨SS, CC, ff, dd⟩ := d
 dsimp only at *
 have HF00 : Jq7 (Fr0 w (w.alloc (.cells #[] 66))) := jq7 (Fr.alloc (Fr.refl _ _) _)
 have q0 : w.cell? ⟨p, 0, none⟩ = some (.slice sa SS.length sc) := Bk.cell HV.o.blk 0
 have HRS : Jq7 (RdS (w.alloc (.cells #[] 66)) sa SS) := jq7 (RdG.keep HV.o.v.rs HF00.o)
 have HE0 : Jq7 (Bk (w.alloc (.cells #[] 66)) w.heap.size #[] 66) := jq7 (Bk.new w _)
 have hsn1 : SS.length ≤ 9223372036854775807 := by omega
 have hsn2 : SS.length * 130 ≤ 140737488355328 := by omega
 have W1n : True := trivial
 go_enter Tryz.func95, Tryz.ntmps95
 go_wp2_with (at_builtin;refine wpList_append_all rfl (.tmp 8) (.tmp 12) 22 (by rfl) i0 (.agg ZSC) 130 Tryz.underlying22 HI.o.1 HI.o.2.1 HI.o.2.2.1 HI.o.2.2.2 ZSC_cells (by decide) w.heap.size HE0.o (by rfl) sa SS.length sc (by rfl) SS rfl HRS.o (secs_len HOK.o.s) (fun x _ => Sec.one x) hsn1 hsn2 ?_;intro g cap cur w1 hge hown hfr;have hfr2 := Fr.newG HF00.o hfr (Nat.le_refl _);have hp1 : p < w1.heap.size := hfr2.lt hpw;have p0 : w1.cell? ⟨p, 0, none⟩ = some (.slice sa SS.length sc) := (hfr2.cell p 0 hpw (fun h => h)).trans q0;have g0 : w1.frozen? ⟨p, 0, none⟩ = false := (hfr2.froz p 0 hpw (fun h => h)).trans (Bk.free HV.o.blk 0);have HB1 : Jq7 (Bk (w1.setCell ⟨p, 0, none⟩ (.slice (some ⟨g, 0, none⟩) SS.length cap)) p (DC (.slice (some ⟨g, 0, none⟩) SS.length cap) (.slice ca CC.length cc) ff dd) 25) := jq7 (Bk.set (hfr2.keep HV.o.blk (fun h => h)) 0 _);have HO1 : Jq7 (OwnS (w1.setCell ⟨p, 0, none⟩ (.slice (some ⟨g, 0, none⟩) SS.length cap)) g cap cur SS) := jq7 (OwnG.keep hown (Fr.set1 _ _ _ _) (by omega));have HF1 : Jq7 (Fr (fun i => i = p) w (w1.setCell ⟨p, 0, none⟩ (.slice (some ⟨g, 0, none⟩) SS.length cap))) := jq7 (Fr.set (hfr2.weaken (fun _ _ h => h.elim)) _ _ (.inr rfl));have HGE := jq7 hge;clear hfr hown hge hfr2)
 clear q0 p0 g0
 generalize hw0 : w1.setCell _ _ = w0 at *
 clear hw0 hp1
 go_loopw [6] (fun i wr => ∃ k cur, k ≤ CC.length ∧ i = .int .i64 (k : Nat) ∧ OwnS wr g cap cur (laid SS CC (fun _ => true) k) ∧ Bk wr p (DC (.slice (some ⟨g, 0, none⟩) SS.length cap) (.slice ca CC.length cc) ff dd) 25 ∧ Fr (fun i => i = p) w wr) (fun i _ => CC.length - (intOf i).toNat)
 case atStart => exact ⟨0, cur, Nat.zero_le _, rfl, HO1.o, HB1.o, HF1.o⟩
 case round =>
  clear HB1 HO1 HF1
  obtain ⟨k, cur, hk, rfl, hO, hB, hF⟩ := hrel
  have HOR := jq7 hO
  have HBR := jq7 hB
  have HFR := jq7 hF
  have hgr := Bk.lt hO.blk
  have hpr := Bk.lt hB
  clear hO hB hF
  have p1 : wr.cell? ⟨p, 1, none⟩ = some (.slice ca CC.length cc) := Bk.cell HBR.o 1
  have g1 := Bk.free HBR.o 1
  by_cases hlt : k < CC.length
  ·have hgp : g ≠ p := by have := HGE.o;omega
   have HKV : Jq7 (True) := jq7 trivial
   have hb0 := HV.o.v.rc k hlt
   obtain ⟨b, o, rfl, hrg0⟩ := hb0
   have hbw : b < w.heap.size := World.block_lt_of_cell? w _ (hrg0 0 _ (Wri.pos_at _))
   have hbg : b ≠ g := by have := HGE.o;omega
   have HRG := jq7 ((RdC.past HV.o.v.rc HOK.o.c HFR.o HV.o.blk (dval_no _ _ _ _ _)).at hlt)
   have HX := jq7 (HOK.o.c _ (List.getElem_mem hlt))
   obtain ⟨q, hq⟩ : ∃ q : Nat, CC[k].pos = (q : Int) := ⟨CC[k].pos.toNat, by have := HPOS.o k hlt;omega⟩
   have hqn : q < SS.length := by have := HPOS.o k hlt;omega
   have HQ := jq7 hq
   clear hrg0 hq
   go_wp2
   have hqo : q * 130 + 130 ≤ cur.size := by have h1 := HOR.o.size;have h2 := HOR.o.room;rw [laid_len] at h2;omega
   have hck : ((k : Int)).toNat = k := by omega
   have HST : Jq7 (Stand [(p, .cells (DC (.slice (some ⟨g, 0, none⟩) SS.length cap) (.slice (some ⟨b, o, none⟩) CC.length cc) ff dd) 25 (0, 0))] wr) := jq7 (Stand.cons HBR.o (Stand.nil _))
   have HBd : Jq7 (Bk wr.drew p (DC (.slice (some ⟨g, 0, none⟩) SS.length cap) (.slice (some ⟨b, o, none⟩) CC.length cc) ff dd) 25) := jq7 HBR.o
   have HGd : Jq7 (Bk wr.drew g cur 66) := jq7 HOR.o.blk
   have HFd : Jq7 (Fr (fun i => i = p) w wr.drew) := jq7 (Fr.drew HFR.o)
   have HX0 : Jq7 (∀ W : World, W.rangeAt b (o + k * 129) CC[k].cells → W.cell? ⟨b, o + k * 129, none⟩ = some (.int .i64 (q : Int))) := jq7 (fun W h => by rw [← HQ.o];exact h 0 _ (Wri.pos_at _))
   have HXD : Jq7 (∀ W : World, W.rangeAt b (o + k * 129) CC[k].cells → W.rangeAt b (o + k * 129 + 1) (CC[k].data.map B)) := jq7 (fun W h j u hj => by
    have := h (j + 1) u (by rw [Wri.data_at];exact hj)
    rw [Nat.add_assoc (o + k * 129) 1 j, Nat.add_comm 1 j]
    exact this)
   have HIB : Jq7 ((Tryz.prog.info? 36).map (·.size) = some (CC[k].data.map B).length) := jq7 (by rw [List.length_map, HX.o.len, info_b])
   have HIC : Jq7 ((Tryz.prog.info? 36).map (·.size) = some (CC[k].data.map B).toArray.size) := jq7 (by rw [List.size_toArray, List.length_map, HX.o.len, info_b])
   have HOB : Jq7 ((CC[k].data.map B).toArray.all (·.oneCell') = true) := jq7 (by simp [B, Value.oneCell'])
   have HTH : Jq7 (wr.drew.there g (q * 130) (CC[k].data.map B).toArray.size) := jq7 (there_bk HGd.o _ _ (by rw [List.size_toArray, List.length_map, HX.o.len];omega))
   have HOO := jq7 HOR.o
   clear HBR HOR p1 g1
   refine wp_region_noPanic ?_
   refine wp_region_held_drew (S := (fun W => Stand [(p, .cells (DC (.slice (some ⟨g, 0, none⟩) SS.length cap) (.slice (some ⟨b, o, none⟩) CC.length cc) ff dd) 25 (0, 0))] W ∧ W.rangeAt b (o + k * 129) CC[k].cells)) (by kernel_rfl) (⟨Stand.drew HST.o, HRG.o⟩) (fun hL0 => ?_)
   generalize wr.drew = wd at *
   refine tk0 (i := 0) (v := .pointer (some ⟨p, 0, none⟩)) rfl hL0 ?_
   refine tk0 (i := 1) (v := .pointer (some ⟨p, 0, none⟩)) rfl hL0 ?_
   simp only [Act.put,zA,zB,zC,zD,zE,zF]
   refine tk0 (i := 2) (v := .pointer (some ⟨p, 0, none⟩)) rfl hL0 ?_
   refine tk (i := 3) (v := .slice (some ⟨g, 0, none⟩) SS.length cap) rfl (Or.inl ⟨by kernel_rfl, fun w hSw => by have hcl := (fun W h => Bk.cell (Stand.a0 h.1) 0) w hSw;go_simp⟩) hL0 ?_
   simp only [Act.put,zA,zB,zC,zD,zE,zF]
   refine tk0 (i := 4) (v := .pointer (some ⟨p, 0, none⟩)) rfl hL0 ?_
   refine tk0 (i := 5) (v := .pointer (some ⟨p, 0, none⟩)) rfl hL0 ?_
   simp only [Act.put,zA,zB,zC,zD,zE,zF]
   refine tk0 (i := 6) (v := .pointer (some ⟨p, 1, none⟩)) rfl hL0 ?_
   refine tk (i := 7) (v := .slice (some ⟨b, o, none⟩) CC.length cc) rfl (Or.inl ⟨by kernel_rfl, fun w hSw => by have hcl := (fun W h => Bk.cell (Stand.a0 h.1) 1) w hSw;go_simp⟩) hL0 ?_
   simp only [Act.put,zA,zB,zC,zD,zE,zF]
   refine tk0 (i := 8) (v := .int .i64 (k : Int)) rfl hL0 ?_
   refine tk (i := 9) (v := .pointer (some ⟨b, o + k * 129, none⟩)) rfl (Or.inl ⟨by kernel_rfl, fun w hSw => by go_simp⟩) hL0 ?_
   simp only [Act.put,zA,zB,zC,zD,zE,zF]
   refine tk0 (i := 10) (v := .pointer (some ⟨b, o + k * 129, none⟩)) rfl hL0 ?_
   refine tk (i := 11) (v := .int .i64 (q : Int)) rfl (Or.inl ⟨by kernel_rfl, fun w hSw => by have hcl := (fun W h => HX0.o _ h.2) w hSw;go_simp⟩) hL0 ?_
   simp only [Act.put,zA,zB,zC,zD,zE,zF]
   refine tk0 (i := 12) (v := .pointer (some ⟨p, 0, none⟩)) rfl hL0 ?_
   refine tk0 (i := 13) (v := .pointer (some ⟨p, 0, none⟩)) rfl hL0 ?_
   simp only [Act.put,zA,zB,zC,zD,zE,zF]
   refine tk0 (i := 14) (v := .pointer (some ⟨p, 1, none⟩)) rfl hL0 ?_
   refine tk (i := 15) (v := .slice (some ⟨b, o, none⟩) CC.length cc) rfl (Or.inl ⟨by kernel_rfl, fun w hSw => by have hcl := (fun W h => Bk.cell (Stand.a0 h.1) 1) w hSw;go_simp⟩) hL0 ?_
   simp only [Act.put,zA,zB,zC,zD,zE,zF]
   refine tk0 (i := 16) (v := .int .i64 (k : Int)) rfl hL0 ?_
   refine tk (i := 17) (v := .pointer (some ⟨b, o + k * 129, none⟩)) rfl (Or.inl ⟨by kernel_rfl, fun w hSw => by go_simp⟩) hL0 ?_
   simp only [Act.put,zA,zB,zC,zD,zE,zF]
   refine tk0 (i := 18) (v := .pointer (some ⟨b, o + k * 129 + 1, none⟩)) rfl hL0 ?_
   refine tk (i := 19) (v := .agg (CC[k].data.map B).toArray) rfl (yieldsIf_load_mid (by kernel_rfl) 36 _ rfl b (o + k * 129 + 1) rfl (CC[k].data.map B) _ (fun W h => HXD.o W h.2) Tryz.underlying36 rfl HIB.o) hL0 ?_
   simp only [Act.put,zA,zB,zC,zD,zE,zF]
   refine tk (i := 20) (v := .pointer (some ⟨g, q * 130, none⟩)) rfl (Or.inl ⟨by kernel_rfl, fun w hSw => by go_simp⟩) hL0 ?_
   refine tk0 (i := 21) (v := .pointer (some ⟨g, q * 130, none⟩)) rfl hL0 ?_
   simp only [Act.put,zA,zB,zC,zD,zE,zF]
   change wpAnyH _ _ _ _ _ 1 #[true, true, true, true, true, true, true, true, true, true, true, true, true, true, true, true, true, true, true, true, true, true, false] _ _
   refine rd1 22 rfl fun K hK => ?_
   simp only [zA, zB, zC]
   refine wp_store_mid 36 _ _ rfl g (q * 130) (CC[k].data.map B).toArray rfl rfl HTH.o HIC.o HOB.o ?_
   refine hK.out _ _ (⟨Stand.fr hL0.1 (Fr.sets1 _ _ _ _) (fun r hr => by simp only [List.mem_cons, List.not_mem_nil, or_false] at hr;subst hr;exact hgp.symm), rangeAt_fr hL0.2 (Fr.sets1 _ _ _ _) hbg⟩) (fun hL1 => ?_)
   clear hK K hL0
   have HG3 : Jq7 (Bk (wd.setCells g (q * 130) (CC[k].data.map B).toArray.toList) g (lyc cur (q * 130) (CC[k].data.map B)) 66) := jq7 (sets_bk _ _ _ _ HGd.o)
   have HB3 : Jq7 (Bk (wd.setCells g (q * 130) (CC[k].data.map B).toArray.toList) p (DC (.slice (some ⟨g, 0, none⟩) SS.length cap) (.slice (some ⟨b, o, none⟩) CC.length cc) ff dd) 25) := jq7 ((Fr.sets1 wd g (q * 130) _).keep HBd.o hgp.symm)
   have HF3 : Jq7 (Fr (fun i => i = p) w (wd.setCells g (q * 130) (CC[k].data.map B).toArray.toList)) := jq7 (Fr.newG HFd.o (Fr.sets1 wd g (q * 130) _) HGE.o)
   generalize (wd.setCells g (q * 130) (CC[k].data.map B).toArray.toList) = w3 at *
   change wpAnyH _ _ _ _ _ 0 #[true, true, true, true, true, true, true, true, true, true, true, true, true, true, true, true, true, true, true, true, true, true, true] _ _
   refine wpAnyH_done (by kernel_rfl) ?_ _
   refine NoPanic.normal ?_
   have HEND := jq7 hL1
   clear hL1
   have hs3 : (lyc cur (q * 130) (CC[k].data.map B)).size = cur.size := lay_size _ _ _
   go_wp2_with fail
   clear HST
   have HST := jq7 HEND.o
   have HBe : Jq7 (Bk w3.drew p (DC (.slice (some ⟨g, 0, none⟩) SS.length cap) (.slice (some ⟨b, o, none⟩) CC.length cc) ff dd) 25) := jq7 HB3.o
   have HGe : Jq7 (Bk w3.drew g (lyc cur (q * 130) (CC[k].data.map B)) 66) := jq7 HG3.o
   have HFe : Jq7 (Fr (fun i => i = p) w w3.drew) := jq7 (Fr.drew HF3.o)
   clear HEND HB3 HG3 HF3
   refine wp_region_noPanic ?_
   refine wp_region_held_drew (S := (fun W => Stand [(p, .cells (DC (.slice (some ⟨g, 0, none⟩) SS.length cap) (.slice (some ⟨b, o, none⟩) CC.length cc) ff dd) 25 (0, 0))] W ∧ W.rangeAt b (o + k * 129) CC[k].cells)) (by kernel_rfl) (⟨Stand.drew HST.o.1, HST.o.2⟩) (fun hL0 => ?_)
   generalize w3.drew = we at *
   refine tk0 (i := 0) (v := .pointer (some ⟨p, 0, none⟩)) rfl hL0 ?_
   refine tk0 (i := 1) (v := .pointer (some ⟨p, 0, none⟩)) rfl hL0 ?_
   simp only [Act.put,zA,zB,zC,zD,zE,zF]
   refine tk0 (i := 2) (v := .pointer (some ⟨p, 0, none⟩)) rfl hL0 ?_
   refine tk (i := 3) (v := .slice (some ⟨g, 0, none⟩) SS.length cap) rfl (Or.inl ⟨by kernel_rfl, fun w hSw => by have hcl := (fun W h => Bk.cell (Stand.a0 h.1) 0) w hSw;go_simp⟩) hL0 ?_
   simp only [Act.put,zA,zB,zC,zD,zE,zF]
   refine tk0 (i := 4) (v := .pointer (some ⟨p, 0, none⟩)) rfl hL0 ?_
   refine tk0 (i := 5) (v := .pointer (some ⟨p, 0, none⟩)) rfl hL0 ?_
   simp only [Act.put,zA,zB,zC,zD,zE,zF]
   refine tk0 (i := 6) (v := .pointer (some ⟨p, 1, none⟩)) rfl hL0 ?_
   refine tk (i := 7) (v := .slice (some ⟨b, o, none⟩) CC.length cc) rfl (Or.inl ⟨by kernel_rfl, fun w hSw => by have hcl := (fun W h => Bk.cell (Stand.a0 h.1) 1) w hSw;go_simp⟩) hL0 ?_
   simp only [Act.put,zA,zB,zC,zD,zE,zF]
   refine tk0 (i := 8) (v := .int .i64 (k : Int)) rfl hL0 ?_
   refine tk (i := 9) (v := .pointer (some ⟨b, o + k * 129, none⟩)) rfl (Or.inl ⟨by kernel_rfl, fun w hSw => by go_simp⟩) hL0 ?_
   simp only [Act.put,zA,zB,zC,zD,zE,zF]
   refine tk0 (i := 10) (v := .pointer (some ⟨b, o + k * 129, none⟩)) rfl hL0 ?_
   refine tk (i := 11) (v := .int .i64 (q : Int)) rfl (Or.inl ⟨by kernel_rfl, fun w hSw => by have hcl := (fun W h => HX0.o _ h.2) w hSw;go_simp⟩) hL0 ?_
   simp only [Act.put,zA,zB,zC,zD,zE,zF]
   refine tk (i := 12) (v := .pointer (some ⟨g, q * 130, none⟩)) rfl (Or.inl ⟨by kernel_rfl, fun w hSw => by go_simp⟩) hL0 ?_
   refine tk0 (i := 13) (v := .pointer (some ⟨g, q * 130 + 128, none⟩)) rfl hL0 ?_
   simp only [Act.put,zA,zB,zC,zD,zE,zF]
   change wpAnyH _ _ _ _ _ 1 #[true, true, true, true, true, true, true, true, true, true, true, true, true, true, false] _ _
   refine rd1 14 rfl fun K hK => ?_
   simp only [zA, zB, zC]
   obtain ⟨u9, hu9⟩ : ∃ u, we.cell? ⟨g, q * 130 + 128, none⟩ = some u := ⟨_, (Bk.cell HGe.o _).trans (Array.getElem?_eq_getElem (by omega))⟩
   have hf9 := Bk.free HGe.o (q * 130 + 128)
   go_wp2_with fail
   clear hu9 hf9
   have HG4 : Jq7 (Bk (we.setCell ⟨g, q * 130 + 128, none⟩ (.bool false)) g ((lyc cur (q * 130) (CC[k].data.map B)).setIfInBounds (q * 130 + 128) (.bool false)) 66) := jq7 (Bk.set HGe.o _ _)
   have HB4 : Jq7 (Bk (we.setCell ⟨g, q * 130 + 128, none⟩ (.bool false)) p (DC (.slice (some ⟨g, 0, none⟩) SS.length cap) (.slice (some ⟨b, o, none⟩) CC.length cc) ff dd) 25) := jq7 ((Fr.set1 we g (q * 130 + 128) _).keep HBe.o hgp.symm)
   have HF4 : Jq7 (Fr (fun i => i = p) w (we.setCell ⟨g, q * 130 + 128, none⟩ (.bool false))) := jq7 (Fr.newG HFe.o (Fr.set1 we g (q * 130 + 128) _) HGE.o)
   refine hK.out _ _ (⟨Stand.fr hL0.1 (Fr.set1 _ _ _ _) (fun r hr => by simp only [List.mem_cons, List.not_mem_nil, or_false] at hr;subst hr;exact hgp.symm), rangeAt_fr hL0.2 (Fr.set1 _ _ _ _) hbg⟩) (fun hL1 => ?_)
   clear hK K hL0
   generalize (we.setCell ⟨g, q * 130 + 128, none⟩ (.bool false)) = wy0 at *
   change wpAnyH _ _ _ _ _ 0 #[true, true, true, true, true, true, true, true, true, true, true, true, true, true, true] _ _
   refine wpAnyH_done (by kernel_rfl) ?_ _
   refine NoPanic.normal ?_
   have HEND := jq7 hL1
   clear hL1
   go_wp2_with fail
   go_roundw
   case rel => exact ⟨k + 1, _, by omega, by go_num, by
    rw [laid_succ hlt, if_pos rfl, HQ.o, Int.toNat_natCast]
    exact OwnS.lay1 HOO.o (laid_ok HOK.o.s HOK.o.c k) (by rw [laid_len];exact hqn) CC[k] HX.o HG4.o, HB4.o, HF4.o⟩
   case measure => simp [intOf];omega
  ·obtain rfl : k = CC.length := by omega
   clear hlt
   go_wp2
   go_end0
   refine ⟨⟨_, rfl⟩, ⟨some ⟨g, 0, none⟩, cap, ?_, ?_⟩, Fr.set HFR.o _ _ (.inr rfl)⟩
   ·have := Bk.set HBR.o 1 (.slice none 0 0)
    simp only [layD, dval, laid_len]
    exact this
   ·have hgp : g ≠ p := by have := HGE.o;omega
    have := OwnG.keep HOR.o (Fr.set1 wr p 1 (.slice none 0 0)) hgp
    exact ⟨this.rd, RdG.nil _ _, this.room, this.max, Nat.le_refl _, by omega⟩

end Go.Proofs.YtmkmpfnadcmcoaaGreatDoor.DiskRLay
namespace Go.Proofs.YtmkmpfnadcmcoaaGreatDoor.DiskRFlush
open Go Go.RowKit K EqKit ArrKit HeldKit GKit GRow DiskKit DiskAsk DiskForm DiskAct DiskNew DiskCopy DiskLay DiskFlush DiskRLay
theorem rflush_wrong (p : Nat) (d : Dk) (sa : Option Addr) (sc : Nat) (ca : Option Addr) (cc : Nat) (w : World) (hok : d.ok) (hv : DAt w p d sa sc ca cc) (hr : formedB d = false) : Calls Tryz.prog 78 #[.pointer (some ⟨p, 0, none⟩)] w fun e w' => e = .returned (.int .i64 1) ∧ Now w w' p d := by
 have HRI := jq7 (rformed_calls d sa sc ca cc w hv.v)
 rw [hr] at HRI
 have HV := jq7 hv
 clear hv hok hr
 go_enter Tryz.func78, Tryz.ntmps78
 go_wp2_with (first | ((with_reducible show wkq (.load 25 _) _);refine lr 25 p _ HV.o.blk info_d ?_) | (go_at_call 45;(with_reducible refine (HRI.o).mono ?_);rintro e w2 ⟨rfl, hf2⟩;have HF2 := jq7 hf2;clear hf2))
 go_ret
 exact ⟨rfl, Now.same HV.o HF2.o⟩
theorem rflush_down (p : Nat) (d : Dk) (sa : Option Addr) (sc : Nat) (ca : Option Addr) (cc : Nat) (w : World) (hok : d.ok) (hv : DAt w p d sa sc ca cc) (hr : formedB d = true) (ha : actE d = 3) : Calls Tryz.prog 78 #[.pointer (some ⟨p, 0, none⟩)] w fun e w' => e = .returned (.int .i64 3) ∧ Now w w' p (actD d) := by
 have HRI := jq7 (rformed_calls d sa sc ca cc w hv.v)
 rw [hr] at HRI
 have HSP := jq7 (fun W (h : Fr0 w W) => act_calls p d sa sc ca cc W hok (hv.keep h))
 rw [ha] at HSP
 have HV := jq7 hv
 clear hv hok hr ha
 go_enter Tryz.func78, Tryz.ntmps78
 go_wp2_with (first | ((with_reducible show wkq (.load 25 _) _);refine lr 25 p _ HV.o.blk info_d ?_) | (go_at_call 45;(with_reducible refine (HRI.o).mono ?_);rintro e w2 ⟨rfl, hf2⟩;have HF2 := jq7 hf2;clear hf2) | (go_at_call 94;(with_reducible refine (HSP.o _ HF2.o).mono ?_);rintro e w3 ⟨rfl, hf3⟩;have HA3 := jq7 hf3;clear hf3))
 go_ret
 exact ⟨rfl, Laid.now (d' := d) HF2.o HA3.o⟩
theorem rflush_good (p : Nat) (d : Dk) (sa : Option Addr) (sc : Nat) (ca : Option Addr) (cc : Nat) (w : World) (hok : d.ok) (hv : DAt w p d sa sc ca cc) (hr : formedB d = true) (ha : actE d = 0) : Calls Tryz.prog 78 #[.pointer (some ⟨p, 0, none⟩)] w fun e w' => e = .returned (.int .i64 0) ∧ Now w w' p (layD (actD d) (fun _ => true)) := by
 have HRI := jq7 (rformed_calls d sa sc ca cc w hv.v)
 rw [hr] at HRI
 have HSP := jq7 (fun W (h : Fr0 w W) => act_calls p d sa sc ca cc W hok (hv.keep h))
 rw [ha] at HSP
 have HV := jq7 hv
 have HLA := jq7 (fun W (h : DAt W p (actD d) sa sc ca cc) => rlay_all_calls p (actD d) sa sc ca cc W (actD_ok hok) h (formed_act.trans hr))
 clear hv hok hr ha
 go_enter Tryz.func78, Tryz.ntmps78
 go_wp2_with (first | ((with_reducible show wkq (.load 25 _) _);refine lr 25 p _ HV.o.blk info_d ?_) | (go_at_call 45;(with_reducible refine (HRI.o).mono ?_);rintro e w2 ⟨rfl, hf2⟩;have HF2 := jq7 hf2;clear hf2) | (go_at_call 94;(with_reducible refine (HSP.o _ HF2.o).mono ?_);rintro e w3 ⟨rfl, hf3⟩;have HA3 := jq7 hf3;clear hf3) | (go_at_call 95;(with_reducible refine (HLA.o _ HA3.o.at_).mono ?_);rintro e w4 ⟨⟨v4, rfl⟩, hf4⟩;have HA4 := jq7 hf4;clear hf4))
 go_ret
 exact ⟨rfl, Laid.fr1 ((HF2.o.weaken (fun _ _ h => h.elim)).trans HA3.o.fr) HA4.o⟩
theorem rflush_calls (p : Nat) (d : Dk) (sa : Option Addr) (sc : Nat) (ca : Option Addr) (cc : Nat) (w : World) (hok : d.ok) (hv : DAt w p d sa sc ca cc) : Calls Tryz.prog 78 #[.pointer (some ⟨p, 0, none⟩)] w fun e w' => e = .returned (.int .i64 (flushE d)) ∧ Now w w' p (flushD d) := by
 unfold flushE flushD
 rw [right0]
 cases hr : formedB d with
 | false => rw [if_pos rfl, if_pos rfl];exact rflush_wrong p d sa sc ca cc w hok hv hr
 | true =>
  rw [if_neg (by simp), if_neg (by simp)]
  rcases actE_cases d with ha | ha
  ·rw [if_pos ha, ha];exact rflush_down p d sa sc ca cc w hok hv hr ha
  ·rw [if_neg (by omega), ha];exact rflush_good p d sa sc ca cc w hok hv hr ha
end Go.Proofs.YtmkmpfnadcmcoaaGreatDoor.DiskRFlush
