/- The law DiskSure, walked. -/
import Derived.Test.YtboakipfhidkmaaDiskAlive
import Derived.Test.YtboakipfhidkmaaDiskSame
import Derived.Test.YtboakipfhidkmaaDiskRFlush
import Derived.Test.YtboakipfhidkmaaDiskRWrite
import Derived.Test.YtboakipfhidkmaaSureKit
set_option linter.unusedVariables false
set_option linter.unusedSimpArgs false
namespace Go.Proofs.Ytboakipfhidkmaa.SureLaw
open Go Go.RowKit Go.Proofs.Ytboakipfhidkmaa.K Go.Proofs.Ytboakipfhidkmaa.EqKit Go.Proofs.Ytboakipfhidkmaa.ArrKit Go.Proofs.Ytboakipfhidkmaa.HeldKit Go.Proofs.Ytboakipfhidkmaa.GKit Go.Proofs.Ytboakipfhidkmaa.GRow Go.Proofs.Ytboakipfhidkmaa.DiskKit Go.Proofs.Ytboakipfhidkmaa.DiskAsk Go.Proofs.Ytboakipfhidkmaa.DiskForm Go.Proofs.Ytboakipfhidkmaa.DiskAct Go.Proofs.Ytboakipfhidkmaa.DiskNew Go.Proofs.Ytboakipfhidkmaa.DiskCopy Go.Proofs.Ytboakipfhidkmaa.DiskTwins Go.Proofs.Ytboakipfhidkmaa.DiskSame Go.Proofs.Ytboakipfhidkmaa.DiskLay Go.Proofs.Ytboakipfhidkmaa.DiskFlush Go.Proofs.Ytboakipfhidkmaa.DiskRLay Go.Proofs.Ytboakipfhidkmaa.DiskRFlush Go.Proofs.Ytboakipfhidkmaa.DiskRRead Go.Proofs.Ytboakipfhidkmaa.DiskRead Go.Proofs.Ytboakipfhidkmaa.DiskWrite Go.Proofs.Ytboakipfhidkmaa.DiskRWrite Go.Proofs.Ytboakipfhidkmaa.DiskAlive Go.Proofs.Ytboakipfhidkmaa.SurePlain Go.Proofs.Ytboakipfhidkmaa.SureKit

theorem RdB.keep {w w1 : World} {ka : Option Addr} {k : List Bool} (h : RdB w ka k) (f : Fr0 w w1) : RdB w1 ka k := RdG.keep h f
structure Stp where
  at_ : UInt8
  data : UInt8
  fl : Bool
def Stp.cells (x : Stp) : List Value := [B x.at_, B x.data, .bool x.fl]
theorem built_blk (y : UInt8) : Try.prog.built 29 [(0, B y)] = some ((blkd y).map B).toArray := by kernel_rfl
theorem step_cell {w : World} {la : Option Addr} {l : List Stp} (h : RdG Stp.cells 3 w la l) {k : Nat} (hk : k < l.length) : ∃ b o, la = some ⟨b, o, none⟩ ∧ w.cell? ⟨b, o + k * 3, none⟩ = some (B l[k].at_) ∧ w.cell? ⟨b, o + k * 3 + 1, none⟩ = some (B l[k].data) ∧ w.cell? ⟨b, o + k * 3 + 2, none⟩ = some (.bool l[k].fl) := by
  obtain ⟨b, o, e, hr⟩ := h k hk
  exact ⟨b, o, e, hr 0 _ rfl, hr 1 _ rfl, hr 2 _ rfl⟩
theorem beq8 (a b : UInt8) : ((a.toNat : Int) == (b.toNat : Int)) = true ↔ a = b := by
  rw [beq_iff_eq]
  constructor
  · intro h; exact UInt8.toNat_inj.1 (by omega)
  · intro h; rw [h]
def ZF : Array Value := #[.int .u8 0, .int .u8 0, .int .u8 0, .int .u8 0]
def ZN : Array Value := #[.slice none 0 0, .slice none 0 0, .slice none 0 0, .slice none 0 0]
set_option maxHeartbeats 2000000 in
set_option maxRecDepth 100000 in
theorem sure_easy (l : List Stp) (la : Option Addr) (lc : Nat) (f : Int) (ka : Option Addr) (kc : Nat) (keep : List Bool) (w : World) (hg : 200 < l.length ∨ f < -1) (hm : l.length ≤ 9223372036854775807) : Calls Try.prog 7 #[.slice la l.length lc, .slice ka keep.length kc, .int .i64 f] w fun e w' => e = .returned (.bool true) ∧ Fr0 w w' := by
  by_cases h2 : 200 < l.length
  · go_enter Try.func7, Try.ntmps7
    go_wp2_with (go_at_call 9; (with_reducible refine (alive_calls _).mono ?_); rintro e w1 ⟨rfl, hf1⟩; have HF1 := Lib.hid hf1; clear hf1)
    go_ret
    exact ⟨rfl, HF1.out⟩
  · have hf : f < -1 := by omega
    go_enter Try.func7, Try.ntmps7
    go_wp2_with (go_at_call 9; (with_reducible refine (alive_calls _).mono ?_); rintro e w1 ⟨rfl, hf1⟩; have HF1 := Lib.hid hf1; clear hf1)
    go_ret
    exact ⟨rfl, HF1.out⟩

set_option maxHeartbeats 4000000 in
set_option maxRecDepth 100000 in
theorem sure_all (l : List Stp) (la : Option Addr) (lc : Nat) (f : Int) (ka : Option Addr) (kc : Nat) (keep : List Bool) (w : World) (hl : l.length ≤ 200) (hf1 : -1 ≤ f) (hfw : (Lit.int .i64 f).wf = true) (hrl : RdG Stp.cells 3 w la l) (hlc : l.length ≤ lc) (hrd : RdB w ka keep) (hkc : keep.length ≤ kc) (hkm : kc ≤ 9223372036854775807) : Calls Try.prog 7 #[.slice la l.length lc, .slice ka keep.length kc, .int .i64 f] w fun e w' => e = .returned (.bool true) ∧ Fr0 w w' := by
  have hzd : ∀ W, (zeroValue 25).run Try.prog W = .ok (.agg DZ) W := by intro W; kernel_rfl
  have hz4 : ∀ W, (zeroValue 49).run Try.prog W = .ok (.agg ZF) W := by intro W; kernel_rfl
  have hz44 : ∀ W, (zeroValue 51).run Try.prog W = .ok (.agg ZN) W := by intro W; kernel_rfl
  have h200 : ¬ 200 < l.length := by omega
  have hfn : ¬ f < -1 := by omega
  have HN : Hid (∀ W, Calls Try.prog 13 #[.int .i64 4] W fun e w' => Gives W w' (newD 4) e 0) := Lib.hid (fun W => new_calls 4 W)
  have ho4 : (newD 4).ok := newD_ok 4
  have HO4 := Lib.hid ho4
  have HAR : Hid (∀ p W sa sc ca cc, DAt W p (newD 4) sa sc ca cc → Calls Try.prog 22 #[.pointer (some ⟨p, 0, none⟩), .int .i64 f] W fun e w' => e = .returned (.int .i64 0) ∧ Aft W w' p (mkD [0, 0, 0, 0] [] f 0) sa sc ca cc) := Lib.hid (fun p W sa sc ca cc h => by
    have := arm_calls p f (newD 4) sa sc ca cc W ho4 h
    rwa [SurePlain.start_E hf1, SurePlain.start_eq hf1] at this)
  have HRL := Lib.hid hrl
  have HRD := Lib.hid hrd
  have HFW := Lib.hid hfw
  clear ho4 hrl hrd
  go_enter Try.func7, Try.ntmps7
  go_wp2_with (first | (go_at_call 9; (with_reducible refine (alive_calls _).mono ?_); rintro e w1 ⟨rfl, hf1⟩; have HF1 := Lib.hid hf1; clear hf1) | (go_at_call 13; (with_reducible refine (HN.out _).mono ?_); rintro e w2 ⟨sa, sc, ca, cc, rfl, hv, hf⟩; have HD0 := Lib.hid (Bk.new w2 (.cells DZ 25)); have HD1 : Hid (Bk ((w2.alloc (.cells DZ 25)).setRow w2.heap.size (dval (newD 4) sa sc ca cc)) w2.heap.size (dval (newD 4) sa sc ca cc) 25) := Lib.hid (ArrKit.Bk.row HD0.out _); have HF2 : Hid (Fr0 w ((w2.alloc (.cells DZ 25)).setRow w2.heap.size (dval (newD 4) sa sc ca cc))) := Lib.hid (ArrKit.Fr.row (Fr.alloc (HF1.out.then0 hf) _) _ _ (.inl (HF1.out.then0 hf).size)); have HV2 : Hid (DV ((w2.alloc (.cells DZ 25)).setRow w2.heap.size (dval (newD 4) sa sc ca cc)) (newD 4) sa sc ca cc) := Lib.hid (DV.past (hv.keep (Fr.alloc (Fr.refl _ _) _)) HO4.out (Fr.row1 _ _ _) HD0.out (dc_no _ _ _ _ (by simp [B]) (by simp [B]))); have HDO : Hid ((dval (newD 4) sa sc ca cc).all (·.oneCell') = true) := Lib.hid (dval_one _ _ _ _ _); have HSZ := Lib.hid (HF1.out.then0 hf).size; clear hv hf) | ((with_reducible show wpList _ _ _ ({ dst := _, op := Op.store 25 _ _, type := _, pos := _, after := _, guard := _ } :: _) _ _); refine wpList_store_row rfl 25 _ _ rfl w2.heap.size (dval (newD 4) sa sc ca cc) rfl rfl 25 DZ HD0.out info_d rfl HDO.out ?_) | (go_at_call 22; (with_reducible refine (HAR.out _ _ sa sc ca cc ⟨HD1.out, HV2.out⟩).mono ?_); rintro e w3 ⟨rfl, ⟨h3, f3⟩⟩; have HD3 := Lib.hid h3; have HF3 : Hid (Fr0 w w3) := Lib.hid (Fr.newG HF2.out f3 HSZ.out); have hp3 : w2.heap.size < w3.heap.size := Bk.lt h3.blk; clear h3 f3))

  have hpq : w2.heap.size < w3.heap.size := hp3
  have HWP : Hid (w.heap.size ≤ w2.heap.size) := HSZ
  have HQ0 : Hid (Bk ((w3.alloc (.cells ZF 49)).alloc (.cells ZN 51)) w3.heap.size ZF 49) := Lib.hid (Bk.alloc (Bk.new w3 _) _)
  have HR0 : Hid (Bk ((w3.alloc (.cells ZF 49)).alloc (.cells ZN 51)) (w3.heap.size + 1) ZN 51) := Lib.hid (by have := Bk.new (w3.alloc (.cells ZF 49)) (.cells ZN 51); rwa [show (w3.alloc (.cells ZF 49)).heap.size = w3.heap.size + 1 by simp] at this)
  have HDA : Hid (DIn ((w3.alloc (.cells ZF 49)).alloc (.cells ZN 51)) w2.heap.size (mkD [0, 0, 0, 0] [] f 0)) := Lib.hid ⟨_, _, _, _, HD3.out.keep (Fr.alloc (Fr.alloc (Fr.refl _ _) _) _)⟩
  have HFA : Hid (Fr0 w ((w3.alloc (.cells ZF 49)).alloc (.cells ZN 51))) := Lib.hid (Fr.alloc (Fr.alloc HF3.out _) _)
  clear HD3 HF3 HD0 HD1 HF2 HV2 HDO HSZ hp3 HAR HN HO4 hzd hz4 hz44
  generalize ((w3.alloc (.cells ZF 49)).alloc (.cells ZN 51)) = wa at *
  generalize w3.heap.size = q at *
  generalize w2.heap.size = p at *
  go_loopw [11] (fun u wr => ∃ (k : Nat) (s : List UInt8) (Cs : List (Nat × UInt8)) (vs : List Value), k ≤ l.length ∧ u = .int .i64 k ∧ s.length = 4 ∧ In4 Cs ∧ Cs.length ≤ k ∧ DIn wr p (mkD s Cs f k) ∧ Bk wr q (s.map B).toArray 49 ∧ Lat wr (q + 1 + 1) (q + 1) (later Cs) vs ∧ Fr0 w wr) (fun u _ => l.length - (intOf u).toNat)
  case atStart => exact ⟨0, [0, 0, 0, 0], [], _, Nat.zero_le _, rfl, rfl, in4_nil, Nat.le_refl _, HDA.out, HQ0.out, lat_start _ HR0.out, HFA.out⟩
  case round =>
    clear HDA HQ0 HR0 HFA
    obtain ⟨k, s, Cs, vs, hk, rfl, hs, hc, hcl, hD, hQ, hL, hF⟩ := hrel
    have HD := Lib.hid hD
    have HQ := Lib.hid hQ
    have HL := Lib.hid hL
    have HF := Lib.hid hF
    have HS := Lib.hid hs
    have HC := Lib.hid hc
    have HM := Lib.hid (mk_ok (s := s) (i := k) hc HFW.out)
    clear hD hQ hL hF
    by_cases hlt : k < l.length
    · obtain ⟨b, o, rfl, -⟩ := step_cell HRL.out hlt
      have HST : Hid (∀ W, Fr0 w W → W.cell? ⟨b, o + k * 3, none⟩ = some (B l[k].at_) ∧ W.cell? ⟨b, o + k * 3 + 1, none⟩ = some (B l[k].data) ∧ W.cell? ⟨b, o + k * 3 + 2, none⟩ = some (.bool l[k].fl)) := Lib.hid (fun W h => by
        obtain ⟨b', o', e, h1⟩ := step_cell (RdG.keep HRL.out h) hlt
        cases e
        exact h1)
      generalize hx : l[k] = x at *
      clear hx
      obtain ⟨xa, y, fl⟩ := x
      simp only [B] at HST
      have hxa := xa.toNat_lt
      generalize xa.toNat = av at *
      have hrem : Int.tmod (av : Int) 4 = ((av % 4 : Nat) : Int) := by rw [show (4 : Int) = ((4 : Nat) : Int) from rfl, ← Int.ofNat_tmod]
      have ha4 : av % 4 < 4 := Nat.mod_lt _ (by omega)
      generalize hag : av % 4 = a at *
      clear hag
      obtain ⟨c0, c1, c2⟩ := HST.out _ HF.out
      obtain ⟨sa, sc, ca, cc, hda⟩ := HD.out
      have HDX := Lib.hid hda
      clear hda
      cases fl with
      | false =>
        have HBY := Lib.hid (built_blk y)
        have HWR := Lib.hid (fun W sa sc ca cc h => write_calls p (a : Int) (blkd y) (mkD s Cs f k) sa sc ca cc W HM.out h (blkd_len y) (by simp only [mkD, List.length_map]; omega) (by simp [Lit.wf, IntKind.min, IntKind.max, IntKind.signed, IntKind.bits]; omega))
        rw [mk_writeE hs hc ha4, mk_writeD hs hc ha4] at HWR
        generalize ((blkd y).map B).toArray = Y at *
        simp only [B] at HBY
        by_cases h0 : 0 ≤ f
        · by_cases h1 : f ≤ k
          · rw [show out f k = true from decide_eq_true ⟨h0, h1⟩, if_pos rfl, if_pos rfl] at HWR
            go_wp2_with (first | ((with_reducible show wpList _ _ _ ({ dst := _, op := Op.build 29 _, type := _, pos := _, after := _, guard := _ } :: _) _ _); refine build_ev rfl 29 _ rfl [(0, .int .u8 (y.toNat : Int))] (by simp [Act.eval, Act.put]) Y HBY.out ?_) | (go_at_call 18; (with_reducible refine (HWR.out _ _ _ _ _ HDX.out).mono ?_); rintro e w5 ⟨rfl, ⟨h5, f5⟩⟩; have HD5 := Lib.hid h5; have HF5 : Hid (Fr0 w w5) := Lib.hid (Fr.newG HF.out f5 HWP.out); have HQ5 := Lib.hid (f5.keep HQ.out (by omega)); have HL5 := Lib.hid (Lat.keep HL.out f5 (by omega) (fun g hg => by omega)); obtain ⟨c5, c6, c7⟩ := HST.out _ HF5.out; clear h5 f5))
            go_roundw
            case rel => exact ⟨k + 1, s, Cs, vs, by omega, by go_num, HS.out, HC.out, by omega, HD5.out, HQ5.out, HL5.out, HF5.out⟩
            case measure => simp [intOf]; omega
          · rw [show out f k = false from decide_eq_false (by omega), if_neg (by simp), if_neg (by simp)] at HWR
            go_wp2_with (first | ((with_reducible show wpList _ _ _ ({ dst := _, op := Op.build 29 _, type := _, pos := _, after := _, guard := _ } :: _) _ _); refine build_ev rfl 29 _ rfl [(0, .int .u8 (y.toNat : Int))] (by simp [Act.eval, Act.put]) Y HBY.out ?_) | (go_at_call 18; (with_reducible refine (HWR.out _ _ _ _ _ HDX.out).mono ?_); rintro e w5 ⟨rfl, ⟨h5, f5⟩⟩; have HD5 := Lib.hid h5; have HF5 : Hid (Fr0 w w5) := Lib.hid (Fr.newG HF.out f5 HWP.out); have HQ5 := Lib.hid (f5.keep HQ.out (by omega)); have HL5 := Lib.hid (Lat.keep HL.out f5 (by omega) (fun g hg => by omega)); obtain ⟨c5, c6, c7⟩ := HST.out _ HF5.out; clear h5 f5))
            have HM1 := Lib.hid (mk_ok (s := s) (i := k + 1) (in4_snoc HC.out ha4 y) HFW.out)
            generalize hD9 : mkD s (Cs ++ [(a, y)]) f (k + 1) = D9 at *
            have HE9 := Lib.hid hD9
            clear hD9
            have HD0 : Hid (DIn w5.drew p D9) := Lib.hid (DIn.keep HD5.out (Fr.drew (Fr.refl _ _)))
            have HQ0 : Hid (Bk w5.drew q (s.map B).toArray 49) := Lib.hid HQ5.out
            have HL0 : Hid (Lat w5.drew (q + 1 + 1) (q + 1) (later Cs) vs) := Lib.hid (Lat.keep HL5.out (Fr.drew (Fr.refl (fun _ => False) _)) (fun h => h) (fun _ _ h => h))
            have HF0 : Hid (Fr0 w w5.drew) := Lib.hid (Fr.drew HF5.out)
            refine wp_region_noPanic ?_
            refine wp_region_held_drew (S := (fun W => Fr0 w W)) (by kernel_rfl) (Fr.drew HF5.out) (fun hHeld0 => ?_)
            generalize w5.drew = wd at *
            change wpAnyH _ _ _ _ _ 13 #[false, false, false, false, false, false, false, false, false, false, false, false, false] _ _
            refine wpAnyH_take (i := 0) (v := .int .i64 (a : Int)) rfl (by kernel_rfl) (by kernel_rfl) (by kernel_rfl) (fun _ _ _ h => h) (Or.inl ⟨by kernel_rfl, fun w hSw => by first | kernel_rfl | (go_simp; done)⟩) hHeld0 ?_
            simp only [Act.put, List.getElem_toArray, List.getElem_cons_succ, List.getElem_cons_zero, List.setIfInBounds_toArray, List.set_cons_zero, List.set_cons_succ]
            change wpAnyH _ _ _ _ _ 12 #[true, false, false, false, false, false, false, false, false, false, false, false, false] _ _
            refine wpAnyH_take (i := 1) (v := .int .i64 (a : Int)) rfl (by kernel_rfl) (by kernel_rfl) (by kernel_rfl) (fun _ _ _ h => h) (Or.inl ⟨by kernel_rfl, fun w hSw => by first | kernel_rfl | (go_simp; done)⟩) hHeld0 ?_
            simp only [Act.put, List.getElem_toArray, List.getElem_cons_succ, List.getElem_cons_zero, List.setIfInBounds_toArray, List.set_cons_zero, List.set_cons_succ]
            change wpAnyH _ _ _ _ _ 11 #[true, true, false, false, false, false, false, false, false, false, false, false, false] _ _
            refine wpAnyH_take (i := 2) (v := .pointer (some ⟨q + 1, a, none⟩)) rfl (by kernel_rfl) (by kernel_rfl) (by kernel_rfl) (fun _ _ _ h => h) (Or.inl ⟨by kernel_rfl, fun w hSw => by go_simp <;> (intro hq9; omega)⟩) hHeld0 ?_
            simp only [Act.put, List.getElem_toArray, List.getElem_cons_succ, List.getElem_cons_zero, List.setIfInBounds_toArray, List.set_cons_zero, List.set_cons_succ]
            change wpAnyH _ _ _ _ _ 10 #[true, true, true, false, false, false, false, false, false, false, false, false, false] _ _
            refine wpAnyH_take (i := 4) (v := .slice (some ⟨b, o, none⟩) l.length lc) rfl (by kernel_rfl) (by kernel_rfl) (by kernel_rfl) (fun _ _ _ h => h) (Or.inl ⟨by kernel_rfl, fun w hSw => by first | kernel_rfl | (go_simp; done)⟩) hHeld0 ?_
            simp only [Act.put, List.getElem_toArray, List.getElem_cons_succ, List.getElem_cons_zero, List.setIfInBounds_toArray, List.set_cons_zero, List.set_cons_succ]
            change wpAnyH _ _ _ _ _ 9 #[true, true, true, false, true, false, false, false, false, false, false, false, false] _ _
            refine wpAnyH_take (i := 5) (v := .int .i64 (k : Int)) rfl (by kernel_rfl) (by kernel_rfl) (by kernel_rfl) (fun _ _ _ h => h) (Or.inl ⟨by kernel_rfl, fun w hSw => by first | kernel_rfl | (go_simp; done)⟩) hHeld0 ?_
            simp only [Act.put, List.getElem_toArray, List.getElem_cons_succ, List.getElem_cons_zero, List.setIfInBounds_toArray, List.set_cons_zero, List.set_cons_succ]
            change wpAnyH _ _ _ _ _ 8 #[true, true, true, false, true, true, false, false, false, false, false, false, false] _ _
            refine wpAnyH_take (i := 6) (v := .pointer (some ⟨b, o + k * 3, none⟩)) rfl (by kernel_rfl) (by kernel_rfl) (by kernel_rfl) (fun _ _ _ h => h) (Or.inl ⟨by kernel_rfl, fun w hSw => by go_simp <;> (intro hq9; omega)⟩) hHeld0 ?_
            simp only [Act.put, List.getElem_toArray, List.getElem_cons_succ, List.getElem_cons_zero, List.setIfInBounds_toArray, List.set_cons_zero, List.set_cons_succ]
            change wpAnyH _ _ _ _ _ 7 #[true, true, true, false, true, true, true, false, false, false, false, false, false] _ _
            refine wpAnyH_take (i := 7) (v := .pointer (some ⟨b, o + k * 3 + 1, none⟩)) rfl (by kernel_rfl) (by kernel_rfl) (by kernel_rfl) (fun _ _ _ h => h) (Or.inl ⟨by kernel_rfl, fun w hSw => by first | kernel_rfl | (go_simp; done)⟩) hHeld0 ?_
            simp only [Act.put, List.getElem_toArray, List.getElem_cons_succ, List.getElem_cons_zero, List.setIfInBounds_toArray, List.set_cons_zero, List.set_cons_succ]
            change wpAnyH _ _ _ _ _ 6 #[true, true, true, false, true, true, true, true, false, false, false, false, false] _ _
            refine wpAnyH_take (i := 8) (v := .int .u8 (y.toNat : Int)) rfl (by kernel_rfl) (by kernel_rfl) (by kernel_rfl) (fun _ _ _ h => h) (Or.inl ⟨by kernel_rfl, fun w hSw => by have hcl := (fun W h => (HST.out W h).2.1) w hSw; go_simp⟩) hHeld0 ?_
            simp only [Act.put, List.getElem_toArray, List.getElem_cons_succ, List.getElem_cons_zero, List.setIfInBounds_toArray, List.set_cons_zero, List.set_cons_succ]
            change wpAnyH _ _ _ _ _ 5 #[true, true, true, false, true, true, true, true, true, false, false, false, false] _ _
            refine wpAnyH_ready (rs := [3, 9]) (by kernel_rfl) (by simp) ?_
            refine AllReadyH.cons rfl (fun K hK => ?_) (AllReadyH.cons rfl (fun K hK => ?_) (AllReadyH.nil))
            · simp only [List.getElem_toArray, List.getElem_cons_succ, List.getElem_cons_zero]
              refine (if_pos (by kernel_rfl)).mpr ?_
              have q1 : wd.cell? ⟨q + 1, a, none⟩ = some (nth vs a) := (Bk.cell HL0.out.blk a).trans (nth_at HL0.out.len ha4)
              go_wp2_with fail
              refine hK.out _ _ (hHeld0) (fun hHeld1 => ?_)
              clear hK K hHeld0
              clear q1
              change wpAnyH _ _ _ _ _ 4 #[true, true, true, true, true, true, true, true, true, false, false, false, false] _ _
              refine wpAnyH_ready (rs := [9]) (by kernel_rfl) (by simp) ?_
              refine AllReadyH.cons rfl (fun K hK => ?_) AllReadyH.nil
              simp only [List.getElem_toArray, List.getElem_cons_succ, List.getElem_cons_zero]
              refine (if_pos (by kernel_rfl)).mpr ?_
              refine wp_buildSlice_byte _ rfl y rfl ?_
              refine hK.out _ _ (Fr.alloc hHeld1 _) (fun hHeld2 => ?_)
              clear hK K hHeld1
              have HD2 : Hid (DIn (wd.alloc (.cells #[B y] 5)) p D9) := Lib.hid (DIn.keep HD0.out (Fr.alloc (Fr.refl (fun _ => False) wd) _))
              have HQ2 : Hid (Bk (wd.alloc (.cells #[B y] 5)) q (s.map B).toArray 49) := Lib.hid (Fr.keep (Fr.alloc (Fr.refl (fun _ => False) wd) _) HQ0.out (fun h => h))
              have HL2 : Hid (Lat (wd.alloc (.cells #[B y] 5)) (q + 1 + 1) (q + 1) (later Cs) vs) := Lib.hid (Lat.keep HL0.out (Fr.alloc (Fr.refl (fun _ => False) wd) _) (fun h => h) (fun _ _ h => h))
              have HF2 : Hid (Fr0 w (wd.alloc (.cells #[B y] 5))) := Lib.hid (Fr.then0 HF0.out (Fr.alloc (Fr.refl (fun _ => False) wd) _))
              have HN2 : Hid (Bk (wd.alloc (.cells #[B y] 5)) wd.heap.size #[B y] 5) := Lib.hid (Bk.new _ _)
              generalize wd.heap.size = gn at *
              generalize (wd.alloc (.cells #[B y] 5)) = wy1 at *
              change wpAnyH _ _ _ _ _ 3 #[true, true, true, true, true, true, true, true, true, true, false, false, false] _ _
              refine wpAnyH_ready (rs := [10]) (by kernel_rfl) (by simp) ?_
              refine AllReadyH.cons rfl (fun K hK => ?_) AllReadyH.nil
              simp only [List.getElem_toArray, List.getElem_cons_succ, List.getElem_cons_zero]
              refine (if_pos (by kernel_rfl)).mpr ?_
              obtain ⟨va, wz, hr5, ho5, hf5, hn5⟩ := append_byte wy1 (q + 1 + 1) 50 (nth vs a) (later Cs a) (HL2.out.own a ha4) (Bk.lt HL2.out.blk) y gn 1 HN2.out (Nat.lt_of_le_of_lt (later_len Cs a) (by omega))
              obtain ⟨A9, n9, c9, hva⟩ : ∃ A n c, va = Value.slice A n c := by obtain ⟨A, c, e, -⟩ := ho5.sure; exact ⟨_, _, _, e⟩
              subst hva
              refine GApp.wp_append_run _ _ 50 rfl _ _ _ rfl rfl hr5 ?_
              refine hK.out _ _ (lat_fr0 HL2.out ha4 hf5 hHeld2 (by have := HWP.out; omega)) (fun hHeld3 => ?_)
              clear hK K hHeld2
              have HPUT := Lib.hid (Lat.put HL2.out ha4 (Bk.lt HL2.out.blk) (by omega) (Value.slice A9 n9 c9) (later Cs a ++ [y]) hf5 ho5 hn5)
              have HDZ := Lib.hid (lat_disk HL2.out ha4 hf5 HD2.out HM1.out (by omega))
              have HQZ := Lib.hid (lat_blk HL2.out ha4 hf5 HQ2.out (by omega))
              have HNO := Lib.hid (lat_no HL2.out)
              have HLN := Lib.hid HL2.out.len
              have HFZ := Lib.hid (lat_fr0 HL2.out ha4 hf5 HF2.out (by have := HWP.out; omega))
              clear hr5 ho5 hf5 hn5
              change wpAnyH _ _ _ _ _ 2 #[true, true, true, true, true, true, true, true, true, true, true, false, false] _ _
              refine wpAnyH_take (i := 11) (v := .pointer (some ⟨q + 1, a, none⟩)) rfl (by kernel_rfl) (by kernel_rfl) (by kernel_rfl) (fun _ _ _ h => h) (Or.inl ⟨by kernel_rfl, fun w hSw => by go_simp <;> (intro hq9; omega)⟩) hHeld3 ?_
              simp only [Act.put, List.getElem_toArray, List.getElem_cons_succ, List.getElem_cons_zero, List.setIfInBounds_toArray, List.set_cons_zero, List.set_cons_succ]
              change wpAnyH _ _ _ _ _ 1 #[true, true, true, true, true, true, true, true, true, true, true, true, false] _ _
              refine wpAnyH_ready (rs := [12]) (by kernel_rfl) (by simp) ?_
              refine AllReadyH.cons rfl (fun K hK => ?_) AllReadyH.nil
              simp only [List.getElem_toArray, List.getElem_cons_succ, List.getElem_cons_zero]
              refine (if_pos (by kernel_rfl)).mpr ?_
              have q1 : wz.cell? ⟨q + 1, a, none⟩ = some (nth vs a) := (Bk.cell HPUT.out.2 a).trans (nth_at HLN.out ha4)
              have f1 := Bk.free HPUT.out.2 a
              go_wp2_with fail
              refine hK.out _ _ (Fr.set hHeld3 (⟨q + 1, a, none⟩ : Addr) (.slice A9 n9 c9) (.inl (by have := HWP.out; show _ ≤ q + 1; omega))) (fun hHeld4 => ?_)
              clear hK K hHeld3
              clear q1 f1
              change wpAnyH _ _ _ _ _ 0 #[true, true, true, true, true, true, true, true, true, true, true, true, true] _ _
              refine wpAnyH_done (by kernel_rfl) ?_ _
              refine NoPanic.normal ?_
              have HEND := Lib.hid hHeld4
              clear hHeld4
              go_wp2_with fail
              have HS9 := Fr.set1 wz (q + 1) a (.slice A9 n9 c9)
              have HL9 := HPUT.out.1
              rw [lat_snoc] at HL9
              have HD9 := DIn.past2 HDZ.out HM1.out HS9 HPUT.out.2 (.inl HNO.out) (by omega)
              have HQ9 := HS9.keep HQZ.out (by omega)
              have HF9 : Fr0 w (wz.setCell ⟨q + 1, a, none⟩ (.slice A9 n9 c9)) := Fr.set HFZ.out (⟨q + 1, a, none⟩ : Addr) (.slice A9 n9 c9) (.inl (by have := HWP.out; show w.heap.size ≤ q + 1; omega))
              go_roundw
              case rel => exact ⟨k + 1, s, Cs ++ [(a, y)], vs.set a (.slice A9 n9 c9), by omega, by go_num, HS.out, in4_snoc HC.out ha4 y, by simp; omega, by rw [HE9.out]; exact HD9, HQ9, HL9, HF9⟩
              case measure => simp [intOf]; omega
            · simp only [List.getElem_toArray, List.getElem_cons_succ, List.getElem_cons_zero]
              refine (if_pos (by kernel_rfl)).mpr ?_
              refine wp_buildSlice_byte _ rfl y rfl ?_
              refine hK.out _ _ (Fr.alloc hHeld0 _) (fun hHeld1 => ?_)
              clear hK K hHeld0
              have HD1 : Hid (DIn (wd.alloc (.cells #[B y] 5)) p D9) := Lib.hid (DIn.keep HD0.out (Fr.alloc (Fr.refl (fun _ => False) wd) _))
              have HQ1 : Hid (Bk (wd.alloc (.cells #[B y] 5)) q (s.map B).toArray 49) := Lib.hid (Fr.keep (Fr.alloc (Fr.refl (fun _ => False) wd) _) HQ0.out (fun h => h))
              have HL1 : Hid (Lat (wd.alloc (.cells #[B y] 5)) (q + 1 + 1) (q + 1) (later Cs) vs) := Lib.hid (Lat.keep HL0.out (Fr.alloc (Fr.refl (fun _ => False) wd) _) (fun h => h) (fun _ _ h => h))
              have HF1 : Hid (Fr0 w (wd.alloc (.cells #[B y] 5))) := Lib.hid (Fr.then0 HF0.out (Fr.alloc (Fr.refl (fun _ => False) wd) _))
              have HN1 : Hid (Bk (wd.alloc (.cells #[B y] 5)) wd.heap.size #[B y] 5) := Lib.hid (Bk.new _ _)
              generalize wd.heap.size = gn at *
              generalize (wd.alloc (.cells #[B y] 5)) = wy0 at *
              change wpAnyH _ _ _ _ _ 4 #[true, true, true, false, true, true, true, true, true, true, false, false, false] _ _
              refine wpAnyH_ready (rs := [3]) (by kernel_rfl) (by simp) ?_
              refine AllReadyH.cons rfl (fun K hK => ?_) AllReadyH.nil
              simp only [List.getElem_toArray, List.getElem_cons_succ, List.getElem_cons_zero]
              refine (if_pos (by kernel_rfl)).mpr ?_
              have q1 : wy0.cell? ⟨q + 1, a, none⟩ = some (nth vs a) := (Bk.cell HL1.out.blk a).trans (nth_at HL1.out.len ha4)
              go_wp2_with fail
              refine hK.out _ _ (hHeld1) (fun hHeld2 => ?_)
              clear hK K hHeld1
              clear q1
              change wpAnyH _ _ _ _ _ 3 #[true, true, true, true, true, true, true, true, true, true, false, false, false] _ _
              refine wpAnyH_ready (rs := [10]) (by kernel_rfl) (by simp) ?_
              refine AllReadyH.cons rfl (fun K hK => ?_) AllReadyH.nil
              simp only [List.getElem_toArray, List.getElem_cons_succ, List.getElem_cons_zero]
              refine (if_pos (by kernel_rfl)).mpr ?_
              obtain ⟨va, wz, hr5, ho5, hf5, hn5⟩ := append_byte wy0 (q + 1 + 1) 50 (nth vs a) (later Cs a) (HL1.out.own a ha4) (Bk.lt HL1.out.blk) y gn 1 HN1.out (Nat.lt_of_le_of_lt (later_len Cs a) (by omega))
              obtain ⟨A9, n9, c9, hva⟩ : ∃ A n c, va = Value.slice A n c := by obtain ⟨A, c, e, -⟩ := ho5.sure; exact ⟨_, _, _, e⟩
              subst hva
              refine GApp.wp_append_run _ _ 50 rfl _ _ _ rfl rfl hr5 ?_
              refine hK.out _ _ (lat_fr0 HL1.out ha4 hf5 hHeld2 (by have := HWP.out; omega)) (fun hHeld3 => ?_)
              clear hK K hHeld2
              have HPUT := Lib.hid (Lat.put HL1.out ha4 (Bk.lt HL1.out.blk) (by omega) (Value.slice A9 n9 c9) (later Cs a ++ [y]) hf5 ho5 hn5)
              have HDZ := Lib.hid (lat_disk HL1.out ha4 hf5 HD1.out HM1.out (by omega))
              have HQZ := Lib.hid (lat_blk HL1.out ha4 hf5 HQ1.out (by omega))
              have HNO := Lib.hid (lat_no HL1.out)
              have HLN := Lib.hid HL1.out.len
              have HFZ := Lib.hid (lat_fr0 HL1.out ha4 hf5 HF1.out (by have := HWP.out; omega))
              clear hr5 ho5 hf5 hn5
              change wpAnyH _ _ _ _ _ 2 #[true, true, true, true, true, true, true, true, true, true, true, false, false] _ _
              refine wpAnyH_take (i := 11) (v := .pointer (some ⟨q + 1, a, none⟩)) rfl (by kernel_rfl) (by kernel_rfl) (by kernel_rfl) (fun _ _ _ h => h) (Or.inl ⟨by kernel_rfl, fun w hSw => by go_simp <;> (intro hq9; omega)⟩) hHeld3 ?_
              simp only [Act.put, List.getElem_toArray, List.getElem_cons_succ, List.getElem_cons_zero, List.setIfInBounds_toArray, List.set_cons_zero, List.set_cons_succ]
              change wpAnyH _ _ _ _ _ 1 #[true, true, true, true, true, true, true, true, true, true, true, true, false] _ _
              refine wpAnyH_ready (rs := [12]) (by kernel_rfl) (by simp) ?_
              refine AllReadyH.cons rfl (fun K hK => ?_) AllReadyH.nil
              simp only [List.getElem_toArray, List.getElem_cons_succ, List.getElem_cons_zero]
              refine (if_pos (by kernel_rfl)).mpr ?_
              have q1 : wz.cell? ⟨q + 1, a, none⟩ = some (nth vs a) := (Bk.cell HPUT.out.2 a).trans (nth_at HLN.out ha4)
              have f1 := Bk.free HPUT.out.2 a
              go_wp2_with fail
              refine hK.out _ _ (Fr.set hHeld3 (⟨q + 1, a, none⟩ : Addr) (.slice A9 n9 c9) (.inl (by have := HWP.out; show _ ≤ q + 1; omega))) (fun hHeld4 => ?_)
              clear hK K hHeld3
              clear q1 f1
              change wpAnyH _ _ _ _ _ 0 #[true, true, true, true, true, true, true, true, true, true, true, true, true] _ _
              refine wpAnyH_done (by kernel_rfl) ?_ _
              refine NoPanic.normal ?_
              have HEND := Lib.hid hHeld4
              clear hHeld4
              go_wp2_with fail
              have HS9 := Fr.set1 wz (q + 1) a (.slice A9 n9 c9)
              have HL9 := HPUT.out.1
              rw [lat_snoc] at HL9
              have HD9 := DIn.past2 HDZ.out HM1.out HS9 HPUT.out.2 (.inl HNO.out) (by omega)
              have HQ9 := HS9.keep HQZ.out (by omega)
              have HF9 : Fr0 w (wz.setCell ⟨q + 1, a, none⟩ (.slice A9 n9 c9)) := Fr.set HFZ.out (⟨q + 1, a, none⟩ : Addr) (.slice A9 n9 c9) (.inl (by have := HWP.out; show w.heap.size ≤ q + 1; omega))
              go_roundw
              case rel => exact ⟨k + 1, s, Cs ++ [(a, y)], vs.set a (.slice A9 n9 c9), by omega, by go_num, HS.out, in4_snoc HC.out ha4 y, by simp; omega, by rw [HE9.out]; exact HD9, HQ9, HL9, HF9⟩
              case measure => simp [intOf]; omega
        · rw [show out f k = false from decide_eq_false (by omega), if_neg (by simp), if_neg (by simp)] at HWR
          go_wp2_with (first | ((with_reducible show wpList _ _ _ ({ dst := _, op := Op.build 29 _, type := _, pos := _, after := _, guard := _ } :: _) _ _); refine build_ev rfl 29 _ rfl [(0, .int .u8 (y.toNat : Int))] (by simp [Act.eval, Act.put]) Y HBY.out ?_) | (go_at_call 18; (with_reducible refine (HWR.out _ _ _ _ _ HDX.out).mono ?_); rintro e w5 ⟨rfl, ⟨h5, f5⟩⟩; have HD5 := Lib.hid h5; have HF5 : Hid (Fr0 w w5) := Lib.hid (Fr.newG HF.out f5 HWP.out); have HQ5 := Lib.hid (f5.keep HQ.out (by omega)); have HL5 := Lib.hid (Lat.keep HL.out f5 (by omega) (fun g hg => by omega)); obtain ⟨c5, c6, c7⟩ := HST.out _ HF5.out; clear h5 f5))
          have HM1 := Lib.hid (mk_ok (s := s) (i := k + 1) (in4_snoc HC.out ha4 y) HFW.out)
          generalize hD9 : mkD s (Cs ++ [(a, y)]) f (k + 1) = D9 at *
          have HE9 := Lib.hid hD9
          clear hD9
          have HD0 : Hid (DIn w5.drew p D9) := Lib.hid (DIn.keep HD5.out (Fr.drew (Fr.refl _ _)))
          have HQ0 : Hid (Bk w5.drew q (s.map B).toArray 49) := Lib.hid HQ5.out
          have HL0 : Hid (Lat w5.drew (q + 1 + 1) (q + 1) (later Cs) vs) := Lib.hid (Lat.keep HL5.out (Fr.drew (Fr.refl (fun _ => False) _)) (fun h => h) (fun _ _ h => h))
          have HF0 : Hid (Fr0 w w5.drew) := Lib.hid (Fr.drew HF5.out)
          refine wp_region_noPanic ?_
          refine wp_region_held_drew (S := (fun W => Fr0 w W)) (by kernel_rfl) (Fr.drew HF5.out) (fun hHeld0 => ?_)
          generalize w5.drew = wd at *
          change wpAnyH _ _ _ _ _ 13 #[false, false, false, false, false, false, false, false, false, false, false, false, false] _ _
          refine wpAnyH_take (i := 0) (v := .int .i64 (a : Int)) rfl (by kernel_rfl) (by kernel_rfl) (by kernel_rfl) (fun _ _ _ h => h) (Or.inl ⟨by kernel_rfl, fun w hSw => by first | kernel_rfl | (go_simp; done)⟩) hHeld0 ?_
          simp only [Act.put, List.getElem_toArray, List.getElem_cons_succ, List.getElem_cons_zero, List.setIfInBounds_toArray, List.set_cons_zero, List.set_cons_succ]
          change wpAnyH _ _ _ _ _ 12 #[true, false, false, false, false, false, false, false, false, false, false, false, false] _ _
          refine wpAnyH_take (i := 1) (v := .int .i64 (a : Int)) rfl (by kernel_rfl) (by kernel_rfl) (by kernel_rfl) (fun _ _ _ h => h) (Or.inl ⟨by kernel_rfl, fun w hSw => by first | kernel_rfl | (go_simp; done)⟩) hHeld0 ?_
          simp only [Act.put, List.getElem_toArray, List.getElem_cons_succ, List.getElem_cons_zero, List.setIfInBounds_toArray, List.set_cons_zero, List.set_cons_succ]
          change wpAnyH _ _ _ _ _ 11 #[true, true, false, false, false, false, false, false, false, false, false, false, false] _ _
          refine wpAnyH_take (i := 2) (v := .pointer (some ⟨q + 1, a, none⟩)) rfl (by kernel_rfl) (by kernel_rfl) (by kernel_rfl) (fun _ _ _ h => h) (Or.inl ⟨by kernel_rfl, fun w hSw => by go_simp <;> (intro hq9; omega)⟩) hHeld0 ?_
          simp only [Act.put, List.getElem_toArray, List.getElem_cons_succ, List.getElem_cons_zero, List.setIfInBounds_toArray, List.set_cons_zero, List.set_cons_succ]
          change wpAnyH _ _ _ _ _ 10 #[true, true, true, false, false, false, false, false, false, false, false, false, false] _ _
          refine wpAnyH_take (i := 4) (v := .slice (some ⟨b, o, none⟩) l.length lc) rfl (by kernel_rfl) (by kernel_rfl) (by kernel_rfl) (fun _ _ _ h => h) (Or.inl ⟨by kernel_rfl, fun w hSw => by first | kernel_rfl | (go_simp; done)⟩) hHeld0 ?_
          simp only [Act.put, List.getElem_toArray, List.getElem_cons_succ, List.getElem_cons_zero, List.setIfInBounds_toArray, List.set_cons_zero, List.set_cons_succ]
          change wpAnyH _ _ _ _ _ 9 #[true, true, true, false, true, false, false, false, false, false, false, false, false] _ _
          refine wpAnyH_take (i := 5) (v := .int .i64 (k : Int)) rfl (by kernel_rfl) (by kernel_rfl) (by kernel_rfl) (fun _ _ _ h => h) (Or.inl ⟨by kernel_rfl, fun w hSw => by first | kernel_rfl | (go_simp; done)⟩) hHeld0 ?_
          simp only [Act.put, List.getElem_toArray, List.getElem_cons_succ, List.getElem_cons_zero, List.setIfInBounds_toArray, List.set_cons_zero, List.set_cons_succ]
          change wpAnyH _ _ _ _ _ 8 #[true, true, true, false, true, true, false, false, false, false, false, false, false] _ _
          refine wpAnyH_take (i := 6) (v := .pointer (some ⟨b, o + k * 3, none⟩)) rfl (by kernel_rfl) (by kernel_rfl) (by kernel_rfl) (fun _ _ _ h => h) (Or.inl ⟨by kernel_rfl, fun w hSw => by go_simp <;> (intro hq9; omega)⟩) hHeld0 ?_
          simp only [Act.put, List.getElem_toArray, List.getElem_cons_succ, List.getElem_cons_zero, List.setIfInBounds_toArray, List.set_cons_zero, List.set_cons_succ]
          change wpAnyH _ _ _ _ _ 7 #[true, true, true, false, true, true, true, false, false, false, false, false, false] _ _
          refine wpAnyH_take (i := 7) (v := .pointer (some ⟨b, o + k * 3 + 1, none⟩)) rfl (by kernel_rfl) (by kernel_rfl) (by kernel_rfl) (fun _ _ _ h => h) (Or.inl ⟨by kernel_rfl, fun w hSw => by first | kernel_rfl | (go_simp; done)⟩) hHeld0 ?_
          simp only [Act.put, List.getElem_toArray, List.getElem_cons_succ, List.getElem_cons_zero, List.setIfInBounds_toArray, List.set_cons_zero, List.set_cons_succ]
          change wpAnyH _ _ _ _ _ 6 #[true, true, true, false, true, true, true, true, false, false, false, false, false] _ _
          refine wpAnyH_take (i := 8) (v := .int .u8 (y.toNat : Int)) rfl (by kernel_rfl) (by kernel_rfl) (by kernel_rfl) (fun _ _ _ h => h) (Or.inl ⟨by kernel_rfl, fun w hSw => by have hcl := (fun W h => (HST.out W h).2.1) w hSw; go_simp⟩) hHeld0 ?_
          simp only [Act.put, List.getElem_toArray, List.getElem_cons_succ, List.getElem_cons_zero, List.setIfInBounds_toArray, List.set_cons_zero, List.set_cons_succ]
          change wpAnyH _ _ _ _ _ 5 #[true, true, true, false, true, true, true, true, true, false, false, false, false] _ _
          refine wpAnyH_ready (rs := [3, 9]) (by kernel_rfl) (by simp) ?_
          refine AllReadyH.cons rfl (fun K hK => ?_) (AllReadyH.cons rfl (fun K hK => ?_) (AllReadyH.nil))
          · simp only [List.getElem_toArray, List.getElem_cons_succ, List.getElem_cons_zero]
            refine (if_pos (by kernel_rfl)).mpr ?_
            have q1 : wd.cell? ⟨q + 1, a, none⟩ = some (nth vs a) := (Bk.cell HL0.out.blk a).trans (nth_at HL0.out.len ha4)
            go_wp2_with fail
            refine hK.out _ _ (hHeld0) (fun hHeld1 => ?_)
            clear hK K hHeld0
            clear q1
            change wpAnyH _ _ _ _ _ 4 #[true, true, true, true, true, true, true, true, true, false, false, false, false] _ _
            refine wpAnyH_ready (rs := [9]) (by kernel_rfl) (by simp) ?_
            refine AllReadyH.cons rfl (fun K hK => ?_) AllReadyH.nil
            simp only [List.getElem_toArray, List.getElem_cons_succ, List.getElem_cons_zero]
            refine (if_pos (by kernel_rfl)).mpr ?_
            refine wp_buildSlice_byte _ rfl y rfl ?_
            refine hK.out _ _ (Fr.alloc hHeld1 _) (fun hHeld2 => ?_)
            clear hK K hHeld1
            have HD2 : Hid (DIn (wd.alloc (.cells #[B y] 5)) p D9) := Lib.hid (DIn.keep HD0.out (Fr.alloc (Fr.refl (fun _ => False) wd) _))
            have HQ2 : Hid (Bk (wd.alloc (.cells #[B y] 5)) q (s.map B).toArray 49) := Lib.hid (Fr.keep (Fr.alloc (Fr.refl (fun _ => False) wd) _) HQ0.out (fun h => h))
            have HL2 : Hid (Lat (wd.alloc (.cells #[B y] 5)) (q + 1 + 1) (q + 1) (later Cs) vs) := Lib.hid (Lat.keep HL0.out (Fr.alloc (Fr.refl (fun _ => False) wd) _) (fun h => h) (fun _ _ h => h))
            have HF2 : Hid (Fr0 w (wd.alloc (.cells #[B y] 5))) := Lib.hid (Fr.then0 HF0.out (Fr.alloc (Fr.refl (fun _ => False) wd) _))
            have HN2 : Hid (Bk (wd.alloc (.cells #[B y] 5)) wd.heap.size #[B y] 5) := Lib.hid (Bk.new _ _)
            generalize wd.heap.size = gn at *
            generalize (wd.alloc (.cells #[B y] 5)) = wy1 at *
            change wpAnyH _ _ _ _ _ 3 #[true, true, true, true, true, true, true, true, true, true, false, false, false] _ _
            refine wpAnyH_ready (rs := [10]) (by kernel_rfl) (by simp) ?_
            refine AllReadyH.cons rfl (fun K hK => ?_) AllReadyH.nil
            simp only [List.getElem_toArray, List.getElem_cons_succ, List.getElem_cons_zero]
            refine (if_pos (by kernel_rfl)).mpr ?_
            obtain ⟨va, wz, hr5, ho5, hf5, hn5⟩ := append_byte wy1 (q + 1 + 1) 50 (nth vs a) (later Cs a) (HL2.out.own a ha4) (Bk.lt HL2.out.blk) y gn 1 HN2.out (Nat.lt_of_le_of_lt (later_len Cs a) (by omega))
            obtain ⟨A9, n9, c9, hva⟩ : ∃ A n c, va = Value.slice A n c := by obtain ⟨A, c, e, -⟩ := ho5.sure; exact ⟨_, _, _, e⟩
            subst hva
            refine GApp.wp_append_run _ _ 50 rfl _ _ _ rfl rfl hr5 ?_
            refine hK.out _ _ (lat_fr0 HL2.out ha4 hf5 hHeld2 (by have := HWP.out; omega)) (fun hHeld3 => ?_)
            clear hK K hHeld2
            have HPUT := Lib.hid (Lat.put HL2.out ha4 (Bk.lt HL2.out.blk) (by omega) (Value.slice A9 n9 c9) (later Cs a ++ [y]) hf5 ho5 hn5)
            have HDZ := Lib.hid (lat_disk HL2.out ha4 hf5 HD2.out HM1.out (by omega))
            have HQZ := Lib.hid (lat_blk HL2.out ha4 hf5 HQ2.out (by omega))
            have HNO := Lib.hid (lat_no HL2.out)
            have HLN := Lib.hid HL2.out.len
            have HFZ := Lib.hid (lat_fr0 HL2.out ha4 hf5 HF2.out (by have := HWP.out; omega))
            clear hr5 ho5 hf5 hn5
            change wpAnyH _ _ _ _ _ 2 #[true, true, true, true, true, true, true, true, true, true, true, false, false] _ _
            refine wpAnyH_take (i := 11) (v := .pointer (some ⟨q + 1, a, none⟩)) rfl (by kernel_rfl) (by kernel_rfl) (by kernel_rfl) (fun _ _ _ h => h) (Or.inl ⟨by kernel_rfl, fun w hSw => by go_simp <;> (intro hq9; omega)⟩) hHeld3 ?_
            simp only [Act.put, List.getElem_toArray, List.getElem_cons_succ, List.getElem_cons_zero, List.setIfInBounds_toArray, List.set_cons_zero, List.set_cons_succ]
            change wpAnyH _ _ _ _ _ 1 #[true, true, true, true, true, true, true, true, true, true, true, true, false] _ _
            refine wpAnyH_ready (rs := [12]) (by kernel_rfl) (by simp) ?_
            refine AllReadyH.cons rfl (fun K hK => ?_) AllReadyH.nil
            simp only [List.getElem_toArray, List.getElem_cons_succ, List.getElem_cons_zero]
            refine (if_pos (by kernel_rfl)).mpr ?_
            have q1 : wz.cell? ⟨q + 1, a, none⟩ = some (nth vs a) := (Bk.cell HPUT.out.2 a).trans (nth_at HLN.out ha4)
            have f1 := Bk.free HPUT.out.2 a
            go_wp2_with fail
            refine hK.out _ _ (Fr.set hHeld3 (⟨q + 1, a, none⟩ : Addr) (.slice A9 n9 c9) (.inl (by have := HWP.out; show _ ≤ q + 1; omega))) (fun hHeld4 => ?_)
            clear hK K hHeld3
            clear q1 f1
            change wpAnyH _ _ _ _ _ 0 #[true, true, true, true, true, true, true, true, true, true, true, true, true] _ _
            refine wpAnyH_done (by kernel_rfl) ?_ _
            refine NoPanic.normal ?_
            have HEND := Lib.hid hHeld4
            clear hHeld4
            go_wp2_with fail
            have HS9 := Fr.set1 wz (q + 1) a (.slice A9 n9 c9)
            have HL9 := HPUT.out.1
            rw [lat_snoc] at HL9
            have HD9 := DIn.past2 HDZ.out HM1.out HS9 HPUT.out.2 (.inl HNO.out) (by omega)
            have HQ9 := HS9.keep HQZ.out (by omega)
            have HF9 : Fr0 w (wz.setCell ⟨q + 1, a, none⟩ (.slice A9 n9 c9)) := Fr.set HFZ.out (⟨q + 1, a, none⟩ : Addr) (.slice A9 n9 c9) (.inl (by have := HWP.out; show w.heap.size ≤ q + 1; omega))
            go_roundw
            case rel => exact ⟨k + 1, s, Cs ++ [(a, y)], vs.set a (.slice A9 n9 c9), by omega, by go_num, HS.out, in4_snoc HC.out ha4 y, by simp; omega, by rw [HE9.out]; exact HD9, HQ9, HL9, HF9⟩
            case measure => simp [intOf]; omega
          · simp only [List.getElem_toArray, List.getElem_cons_succ, List.getElem_cons_zero]
            refine (if_pos (by kernel_rfl)).mpr ?_
            refine wp_buildSlice_byte _ rfl y rfl ?_
            refine hK.out _ _ (Fr.alloc hHeld0 _) (fun hHeld1 => ?_)
            clear hK K hHeld0
            have HD1 : Hid (DIn (wd.alloc (.cells #[B y] 5)) p D9) := Lib.hid (DIn.keep HD0.out (Fr.alloc (Fr.refl (fun _ => False) wd) _))
            have HQ1 : Hid (Bk (wd.alloc (.cells #[B y] 5)) q (s.map B).toArray 49) := Lib.hid (Fr.keep (Fr.alloc (Fr.refl (fun _ => False) wd) _) HQ0.out (fun h => h))
            have HL1 : Hid (Lat (wd.alloc (.cells #[B y] 5)) (q + 1 + 1) (q + 1) (later Cs) vs) := Lib.hid (Lat.keep HL0.out (Fr.alloc (Fr.refl (fun _ => False) wd) _) (fun h => h) (fun _ _ h => h))
            have HF1 : Hid (Fr0 w (wd.alloc (.cells #[B y] 5))) := Lib.hid (Fr.then0 HF0.out (Fr.alloc (Fr.refl (fun _ => False) wd) _))
            have HN1 : Hid (Bk (wd.alloc (.cells #[B y] 5)) wd.heap.size #[B y] 5) := Lib.hid (Bk.new _ _)
            generalize wd.heap.size = gn at *
            generalize (wd.alloc (.cells #[B y] 5)) = wy0 at *
            change wpAnyH _ _ _ _ _ 4 #[true, true, true, false, true, true, true, true, true, true, false, false, false] _ _
            refine wpAnyH_ready (rs := [3]) (by kernel_rfl) (by simp) ?_
            refine AllReadyH.cons rfl (fun K hK => ?_) AllReadyH.nil
            simp only [List.getElem_toArray, List.getElem_cons_succ, List.getElem_cons_zero]
            refine (if_pos (by kernel_rfl)).mpr ?_
            have q1 : wy0.cell? ⟨q + 1, a, none⟩ = some (nth vs a) := (Bk.cell HL1.out.blk a).trans (nth_at HL1.out.len ha4)
            go_wp2_with fail
            refine hK.out _ _ (hHeld1) (fun hHeld2 => ?_)
            clear hK K hHeld1
            clear q1
            change wpAnyH _ _ _ _ _ 3 #[true, true, true, true, true, true, true, true, true, true, false, false, false] _ _
            refine wpAnyH_ready (rs := [10]) (by kernel_rfl) (by simp) ?_
            refine AllReadyH.cons rfl (fun K hK => ?_) AllReadyH.nil
            simp only [List.getElem_toArray, List.getElem_cons_succ, List.getElem_cons_zero]
            refine (if_pos (by kernel_rfl)).mpr ?_
            obtain ⟨va, wz, hr5, ho5, hf5, hn5⟩ := append_byte wy0 (q + 1 + 1) 50 (nth vs a) (later Cs a) (HL1.out.own a ha4) (Bk.lt HL1.out.blk) y gn 1 HN1.out (Nat.lt_of_le_of_lt (later_len Cs a) (by omega))
            obtain ⟨A9, n9, c9, hva⟩ : ∃ A n c, va = Value.slice A n c := by obtain ⟨A, c, e, -⟩ := ho5.sure; exact ⟨_, _, _, e⟩
            subst hva
            refine GApp.wp_append_run _ _ 50 rfl _ _ _ rfl rfl hr5 ?_
            refine hK.out _ _ (lat_fr0 HL1.out ha4 hf5 hHeld2 (by have := HWP.out; omega)) (fun hHeld3 => ?_)
            clear hK K hHeld2
            have HPUT := Lib.hid (Lat.put HL1.out ha4 (Bk.lt HL1.out.blk) (by omega) (Value.slice A9 n9 c9) (later Cs a ++ [y]) hf5 ho5 hn5)
            have HDZ := Lib.hid (lat_disk HL1.out ha4 hf5 HD1.out HM1.out (by omega))
            have HQZ := Lib.hid (lat_blk HL1.out ha4 hf5 HQ1.out (by omega))
            have HNO := Lib.hid (lat_no HL1.out)
            have HLN := Lib.hid HL1.out.len
            have HFZ := Lib.hid (lat_fr0 HL1.out ha4 hf5 HF1.out (by have := HWP.out; omega))
            clear hr5 ho5 hf5 hn5
            change wpAnyH _ _ _ _ _ 2 #[true, true, true, true, true, true, true, true, true, true, true, false, false] _ _
            refine wpAnyH_take (i := 11) (v := .pointer (some ⟨q + 1, a, none⟩)) rfl (by kernel_rfl) (by kernel_rfl) (by kernel_rfl) (fun _ _ _ h => h) (Or.inl ⟨by kernel_rfl, fun w hSw => by go_simp <;> (intro hq9; omega)⟩) hHeld3 ?_
            simp only [Act.put, List.getElem_toArray, List.getElem_cons_succ, List.getElem_cons_zero, List.setIfInBounds_toArray, List.set_cons_zero, List.set_cons_succ]
            change wpAnyH _ _ _ _ _ 1 #[true, true, true, true, true, true, true, true, true, true, true, true, false] _ _
            refine wpAnyH_ready (rs := [12]) (by kernel_rfl) (by simp) ?_
            refine AllReadyH.cons rfl (fun K hK => ?_) AllReadyH.nil
            simp only [List.getElem_toArray, List.getElem_cons_succ, List.getElem_cons_zero]
            refine (if_pos (by kernel_rfl)).mpr ?_
            have q1 : wz.cell? ⟨q + 1, a, none⟩ = some (nth vs a) := (Bk.cell HPUT.out.2 a).trans (nth_at HLN.out ha4)
            have f1 := Bk.free HPUT.out.2 a
            go_wp2_with fail
            refine hK.out _ _ (Fr.set hHeld3 (⟨q + 1, a, none⟩ : Addr) (.slice A9 n9 c9) (.inl (by have := HWP.out; show _ ≤ q + 1; omega))) (fun hHeld4 => ?_)
            clear hK K hHeld3
            clear q1 f1
            change wpAnyH _ _ _ _ _ 0 #[true, true, true, true, true, true, true, true, true, true, true, true, true] _ _
            refine wpAnyH_done (by kernel_rfl) ?_ _
            refine NoPanic.normal ?_
            have HEND := Lib.hid hHeld4
            clear hHeld4
            go_wp2_with fail
            have HS9 := Fr.set1 wz (q + 1) a (.slice A9 n9 c9)
            have HL9 := HPUT.out.1
            rw [lat_snoc] at HL9
            have HD9 := DIn.past2 HDZ.out HM1.out HS9 HPUT.out.2 (.inl HNO.out) (by omega)
            have HQ9 := HS9.keep HQZ.out (by omega)
            have HF9 : Fr0 w (wz.setCell ⟨q + 1, a, none⟩ (.slice A9 n9 c9)) := Fr.set HFZ.out (⟨q + 1, a, none⟩ : Addr) (.slice A9 n9 c9) (.inl (by have := HWP.out; show w.heap.size ≤ q + 1; omega))
            go_roundw
            case rel => exact ⟨k + 1, s, Cs ++ [(a, y)], vs.set a (.slice A9 n9 c9), by omega, by go_num, HS.out, in4_snoc HC.out ha4 y, by simp; omega, by rw [HE9.out]; exact HD9, HQ9, HL9, HF9⟩
            case measure => simp [intOf]; omega
      | true =>
        have HWR := Lib.hid (fun W sa sc ca cc h => flush_calls p (mkD s Cs f k) sa sc ca cc W HM.out h)
        rw [mk_flushE hs hc, mk_flushD hs hc] at HWR
        by_cases h0 : 0 ≤ f
        · by_cases h1 : f ≤ k
          · rw [show out f k = true from decide_eq_true ⟨h0, h1⟩, if_pos rfl, if_pos rfl] at HWR
            go_wp2_with (first | (go_at_call 24; (with_reducible refine (HWR.out _ _ _ _ _ HDX.out).mono ?_); rintro e w5 ⟨rfl, ⟨h5, f5⟩⟩; have HD5 := Lib.hid h5; have HF5 : Hid (Fr0 w w5) := Lib.hid (Fr.newG HF.out f5 HWP.out); have HQ5 := Lib.hid (f5.keep HQ.out (by omega)); have HL5 := Lib.hid (Lat.keep HL.out f5 (by omega) (fun g hg => by omega)); obtain ⟨c5, c6, c7⟩ := HST.out _ HF5.out; clear h5 f5))
            go_roundw
            case rel => exact ⟨k + 1, s, Cs, vs, by omega, by go_num, HS.out, HC.out, by omega, HD5.out, HQ5.out, HL5.out, HF5.out⟩
            case measure => simp [intOf]; omega
          · rw [show out f k = false from decide_eq_false (by omega), if_neg (by simp), if_neg (by simp)] at HWR
            go_wp2_with (first | (go_at_call 24; (with_reducible refine (HWR.out _ _ _ _ _ HDX.out).mono ?_); rintro e w5 ⟨rfl, ⟨h5, f5⟩⟩; have HD5 := Lib.hid h5; have HF5 : Hid (Fr0 w w5) := Lib.hid (Fr.newG HF.out f5 HWP.out); have HQ5 := Lib.hid (f5.keep HQ.out (by omega)); have HL5 := Lib.hid (Lat.keep HL.out f5 (by omega) (fun g hg => by omega)); obtain ⟨c5, c6, c7⟩ := HST.out _ HF5.out; clear h5 f5))
            have HM1 := Lib.hid (mk_ok (s := sureL s Cs) (i := k + 1) in4_nil HFW.out)
            have HSL := Lib.hid (sureL_len Cs hs)
            have HSA : Hid (∀ i (h : i < 4), (sureL s Cs)[i]? = some (lastOr (later Cs i) (s[i]'(by omega)))) := Lib.hid (fun i h => sureL_at hs hc h)
            generalize hD9 : mkD (sureL s Cs) [] f (k + 1) = D9 at *
            have HE9 := Lib.hid hD9
            clear hD9 c0 c1 c2 c5 c6 c7 HD HQ HL HF HDX HWR HM
            go_loopw [14] (fun u wr => ∃ (j : Nat) (ss : List UInt8) (vj : List Value), j ≤ 4 ∧ u = .int .i64 j ∧ ss.length = 4 ∧ (∀ i, i < 4 → ss[i]? = if i < j then (sureL s Cs)[i]? else s[i]?) ∧ DIn wr p D9 ∧ Bk wr q (ss.map B).toArray 49 ∧ Lat wr (q + 1 + 1) (q + 1) (fun i => if i < j then [] else later Cs i) vj ∧ Fr0 w wr) (fun u _ => 4 - (intOf u).toNat)
            case atStart => exact ⟨0, s, vs, Nat.zero_le _, rfl, HS.out, fun i _ => by rw [if_neg (by omega)], HD5.out, HQ5.out, HL5.out.congr (fun i _ => by rw [if_neg (by omega)]), HF5.out⟩
            case round =>
              clear HD5 HQ5 HL5 HF5
              obtain ⟨j, ss, vj, hj, rfl, hss, hsv, hD, hQ, hL, hF⟩ := hrel
              have HD := Lib.hid hD
              have HQ := Lib.hid hQ
              have HL := Lib.hid hL
              have HF := Lib.hid hF
              have HSV := Lib.hid hsv
              have HSS := Lib.hid hss
              clear hsv
              by_cases hj4 : j < 4
              · have j4 : (j : Int) < 4 := by omega
                obtain ⟨A, cap, hvj, hcap, hbl, hcl⟩ := (hL.own j hj4).sure
                simp only [if_neg (Nat.lt_irrefl j)] at hvj hcap hcl
                have c1 : wr.cell? ⟨q + 1, j, none⟩ = some (.slice A (later Cs j).length cap) := (Bk.cell hL.blk j).trans ((nth_at hL.len hj4).trans (by rw [hvj]))
                have f1 := Bk.free hL.blk j
                have f2 := Bk.free hQ j
                have hll : (later Cs j).length ≤ 200 := Nat.le_trans (later_len Cs j) (by omega)
                have hb1 := Bk.lt hL.blk
                have hcq : wr.cell? ⟨q, j, none⟩ = some (B (ss[j]'(by omega))) := (Bk.cell hQ j).trans (by rw [List.getElem?_toArray, List.getElem?_map, List.getElem?_eq_getElem (by omega)]; rfl)
                clear hD hL hF
                by_cases hp : 0 < (later Cs j).length
                · obtain ⟨g, rfl, hce⟩ := hcl ((later Cs j).length - 1) (by omega)
                  have HLO : Hid (lastOr (later Cs j) (s[j]'(by omega)) = (later Cs j)[(later Cs j).length - 1]'(by omega)) := Lib.hid (lastOr_at hp _)
                  have hgq := (hbl g (by rw [hvj]; rfl)).1
                  generalize (later Cs j)[(later Cs j).length - 1]'(by omega) = z at *
                  simp only [B] at hce hcq
                  have HLV := Lib.hid hvj
                  clear hvj hbl hcl hcap hQ
                  generalize hln : (later Cs j).length = ln at *
                  have hpi : (0 : Int) < (ln : Int) := by omega
                  obtain ⟨m, hm⟩ : ∃ m : Nat, m = ln - 1 := ⟨_, rfl⟩
                  rw [← hm] at hce
                  have hsub : IntKind.i64.wrap ((ln : Int) - 1) = (m : Int) := by rw [IntKind.wrap_i64]; omega
                  have hml : (m : Int) < (ln : Int) := by omega
                  have hm0 : (0 : Int) ≤ (m : Int) := by omega
                  clear hm
                  go_wp2
                  have hb2 := Bk.lt HQ.out
                  go_still_tail 12, (by kernel_rfl)
                  change wpList _ _ _ _ _ wr.drew
                  have cqd : wr.drew.cell? ⟨q, j, none⟩ = some (.int .u8 ((ss[j]'(by omega)).toNat : Int)) := hcq
                  have fqd : wr.drew.frozen? ⟨q, j, none⟩ = false := f2
                  have c1d : wr.drew.cell? ⟨q + 1, j, none⟩ = some (.slice (some ⟨g, 0, none⟩) ln cap) := c1
                  have f1d : wr.drew.frozen? ⟨q + 1, j, none⟩ = false := f1
                  have HDd : Hid (DIn wr.drew p D9) := Lib.hid (DIn.keep HD.out (Fr.drew (Fr.refl _ _)))
                  have HQd : Hid (Bk wr.drew q (ss.map B).toArray 49) := Lib.hid HQ.out
                  have HLd := Lib.hid (Lat.keep HL.out (Fr.drew (Fr.refl (fun _ => False) _)) (fun h => h) (fun _ _ h => h))
                  have HFd : Hid (Fr0 w wr.drew) := Lib.hid (Fr.drew HF.out)
                  clear hcq f2 c1 f1 hce
                  generalize wr.drew = wd at *
                  go_wp2
                  have HD8 := Lib.hid (DIn.past2 HDd.out HM1.out (Fr.set1 wd q j (.int .u8 (z.toNat : Int))) HQd.out (.inr (fun i x hx => by
                    rw [List.getElem?_toArray, List.getElem?_map] at hx
                    obtain ⟨v, -, hv⟩ := Option.map_eq_some_iff.1 hx
                    exact ⟨v, hv.symm⟩)) (by omega))
                  have HQ8 : Hid (Bk (wd.setCell ⟨q, j, none⟩ (.int .u8 (z.toNat : Int))) q ((ss.set j z).map B).toArray 49) := Lib.hid (by
                    have := Bk.set HQd.out j (B z)
                    rw [List.setIfInBounds_toArray, ← List.map_set] at this
                    exact this)
                  have HL8 := Lib.hid (Lat.keep HLd.out (Fr.set1 wd q j (.int .u8 (z.toNat : Int))) (by omega) (fun g hg => by omega))
                  have HF8 : Hid (Fr0 w (wd.setCell ⟨q, j, none⟩ (.int .u8 (z.toNat : Int)))) := Lib.hid (Fr.set HFd.out (⟨q, j, none⟩ : Addr) (.int .u8 (z.toNat : Int)) (.inl (by have := HWP.out; show _ ≤ q; omega)))
                  have HD7 := DIn.past2 HD8.out HM1.out (Fr.set1 (wd.setCell ⟨q, j, none⟩ (.int .u8 (z.toNat : Int))) (q + 1) j (.slice none 0 0)) HL8.out.blk (.inl (lat_no HL8.out)) (by omega)
                  have HQ7 := (Fr.set1 (wd.setCell ⟨q, j, none⟩ (.int .u8 (z.toNat : Int))) (q + 1) j (.slice none 0 0)).keep HQ8.out (by omega)
                  have HF7 : Fr0 w ((wd.setCell ⟨q, j, none⟩ (.int .u8 (z.toNat : Int))).setCell ⟨q + 1, j, none⟩ (.slice none 0 0)) := Fr.set HF8.out (⟨q + 1, j, none⟩ : Addr) (.slice none 0 0) (.inl (by have := HWP.out; show _ ≤ q + 1; omega))
                  have HL7 := (Lat.put HL8.out hj4 (Bk.lt HL8.out.blk) (by omega) (.slice none 0 0) [] (Fr.refl _ _) (Own1.nil _ _) (fun g e => by simp [Value.ownBlock] at e)).1
                  rw [lat_down] at HL7
                  have hval : ∀ i, i < 4 → (ss.set j z)[i]? = if i < j + 1 then (sureL s Cs)[i]? else s[i]? := by
                    intro i hi
                    rw [List.getElem?_set]
                    rcases (show i = j ∨ i < j ∨ j < i by omega) with e | e | e
                    · subst e; rw [if_pos rfl, if_pos (by have := HSS.out; omega), if_pos (by omega), HSA.out i hi, HLO.out]
                    · rw [if_neg (by omega), HSV.out i hi, if_pos e, if_pos (by omega)]
                    · rw [if_neg (by omega), HSV.out i hi, if_neg (by omega), if_neg (by omega)]
                  go_roundw
                  case rel => exact ⟨j + 1, ss.set j z, _, by omega, by go_num, by rw [List.length_set]; exact HSS.out, hval, HD7, HQ7, HL7, HF7⟩
                  case measure => simp [intOf]; omega
                · have hl0 : later Cs j = [] := List.eq_nil_of_length_eq_zero (by omega)
                  have HL0 := Lib.hid hl0
                  rw [hl0] at c1
                  simp only [List.length_nil] at c1
                  go_wp2
                  have HD7 := DIn.past2 HD.out HM1.out (Fr.set1 wr (q + 1) j (.slice none 0 0)) HL.out.blk (.inl (lat_no HL.out)) (by omega)
                  have HQ7 := (Fr.set1 wr (q + 1) j (.slice none 0 0)).keep HQ.out (by omega)
                  have HF7 : Fr0 w (wr.setCell ⟨q + 1, j, none⟩ (.slice none 0 0)) := Fr.set HF.out (⟨q + 1, j, none⟩ : Addr) (.slice none 0 0) (.inl (by have := HWP.out; show _ ≤ q + 1; omega))
                  have HL7 := (Lat.put HL.out hj4 (Bk.lt HL.out.blk) (by omega) (.slice none 0 0) [] (Fr.refl _ _) (Own1.nil _ _) (fun g e => by simp [Value.ownBlock] at e)).1
                  rw [lat_down] at HL7
                  have hval : ∀ i, i < 4 → ss[i]? = if i < j + 1 then (sureL s Cs)[i]? else s[i]? := by
                    intro i hi
                    rw [HSV.out i hi]
                    rcases (show i = j ∨ i < j ∨ j < i by omega) with e | e | e
                    · subst e; rw [if_neg (by omega), if_pos (by omega), HSA.out i hi, HL0.out, lastOr_nil, List.getElem?_eq_getElem (by have := HS.out; omega)]
                    · rw [if_pos e, if_pos (by omega)]
                    · rw [if_neg (by omega), if_neg (by omega)]
                  go_roundw
                  case rel => exact ⟨j + 1, ss, _, by omega, by go_num, HSS.out, hval, HD7, HQ7, HL7, HF7⟩
                  case measure => simp [intOf]; omega
              · obtain rfl : j = 4 := by omega
                go_wp2
                have hse : ss = sureL s Cs := by
                  apply List.ext_getElem?
                  intro i
                  by_cases hi : i < 4
                  · rw [HSV.out i hi, if_pos hi]
                  · rw [List.getElem?_eq_none (by have := HSS.out; omega), List.getElem?_eq_none (by have := HSL.out; omega)]
                subst hse
                go_roundw
                case rel => exact ⟨k + 1, _, [], vj, by omega, by go_num, HSL.out, in4_nil, Nat.zero_le _, by rw [HE9.out]; exact HD.out, HQ.out, HL.out.congr (fun i hi => by rw [if_pos hi, later_nil]), HF.out⟩
                case measure => simp [intOf]; omega
        · rw [show out f k = false from decide_eq_false (by omega), if_neg (by simp), if_neg (by simp)] at HWR
          go_wp2_with (first | (go_at_call 24; (with_reducible refine (HWR.out _ _ _ _ _ HDX.out).mono ?_); rintro e w5 ⟨rfl, ⟨h5, f5⟩⟩; have HD5 := Lib.hid h5; have HF5 : Hid (Fr0 w w5) := Lib.hid (Fr.newG HF.out f5 HWP.out); have HQ5 := Lib.hid (f5.keep HQ.out (by omega)); have HL5 := Lib.hid (Lat.keep HL.out f5 (by omega) (fun g hg => by omega)); obtain ⟨c5, c6, c7⟩ := HST.out _ HF5.out; clear h5 f5))
          have HM1 := Lib.hid (mk_ok (s := sureL s Cs) (i := k + 1) in4_nil HFW.out)
          have HSL := Lib.hid (sureL_len Cs hs)
          have HSA : Hid (∀ i (h : i < 4), (sureL s Cs)[i]? = some (lastOr (later Cs i) (s[i]'(by omega)))) := Lib.hid (fun i h => sureL_at hs hc h)
          generalize hD9 : mkD (sureL s Cs) [] f (k + 1) = D9 at *
          have HE9 := Lib.hid hD9
          clear hD9 c0 c1 c2 c5 c6 c7 HD HQ HL HF HDX HWR HM
          go_loopw [14] (fun u wr => ∃ (j : Nat) (ss : List UInt8) (vj : List Value), j ≤ 4 ∧ u = .int .i64 j ∧ ss.length = 4 ∧ (∀ i, i < 4 → ss[i]? = if i < j then (sureL s Cs)[i]? else s[i]?) ∧ DIn wr p D9 ∧ Bk wr q (ss.map B).toArray 49 ∧ Lat wr (q + 1 + 1) (q + 1) (fun i => if i < j then [] else later Cs i) vj ∧ Fr0 w wr) (fun u _ => 4 - (intOf u).toNat)
          case atStart => exact ⟨0, s, vs, Nat.zero_le _, rfl, HS.out, fun i _ => by rw [if_neg (by omega)], HD5.out, HQ5.out, HL5.out.congr (fun i _ => by rw [if_neg (by omega)]), HF5.out⟩
          case round =>
            clear HD5 HQ5 HL5 HF5
            obtain ⟨j, ss, vj, hj, rfl, hss, hsv, hD, hQ, hL, hF⟩ := hrel
            have HD := Lib.hid hD
            have HQ := Lib.hid hQ
            have HL := Lib.hid hL
            have HF := Lib.hid hF
            have HSV := Lib.hid hsv
            have HSS := Lib.hid hss
            clear hsv
            by_cases hj4 : j < 4
            · have j4 : (j : Int) < 4 := by omega
              obtain ⟨A, cap, hvj, hcap, hbl, hcl⟩ := (hL.own j hj4).sure
              simp only [if_neg (Nat.lt_irrefl j)] at hvj hcap hcl
              have c1 : wr.cell? ⟨q + 1, j, none⟩ = some (.slice A (later Cs j).length cap) := (Bk.cell hL.blk j).trans ((nth_at hL.len hj4).trans (by rw [hvj]))
              have f1 := Bk.free hL.blk j
              have f2 := Bk.free hQ j
              have hll : (later Cs j).length ≤ 200 := Nat.le_trans (later_len Cs j) (by omega)
              have hb1 := Bk.lt hL.blk
              have hcq : wr.cell? ⟨q, j, none⟩ = some (B (ss[j]'(by omega))) := (Bk.cell hQ j).trans (by rw [List.getElem?_toArray, List.getElem?_map, List.getElem?_eq_getElem (by omega)]; rfl)
              clear hD hL hF
              by_cases hp : 0 < (later Cs j).length
              · obtain ⟨g, rfl, hce⟩ := hcl ((later Cs j).length - 1) (by omega)
                have HLO : Hid (lastOr (later Cs j) (s[j]'(by omega)) = (later Cs j)[(later Cs j).length - 1]'(by omega)) := Lib.hid (lastOr_at hp _)
                have hgq := (hbl g (by rw [hvj]; rfl)).1
                generalize (later Cs j)[(later Cs j).length - 1]'(by omega) = z at *
                simp only [B] at hce hcq
                have HLV := Lib.hid hvj
                clear hvj hbl hcl hcap hQ
                generalize hln : (later Cs j).length = ln at *
                have hpi : (0 : Int) < (ln : Int) := by omega
                obtain ⟨m, hm⟩ : ∃ m : Nat, m = ln - 1 := ⟨_, rfl⟩
                rw [← hm] at hce
                have hsub : IntKind.i64.wrap ((ln : Int) - 1) = (m : Int) := by rw [IntKind.wrap_i64]; omega
                have hml : (m : Int) < (ln : Int) := by omega
                have hm0 : (0 : Int) ≤ (m : Int) := by omega
                clear hm
                go_wp2
                have hb2 := Bk.lt HQ.out
                go_still_tail 12, (by kernel_rfl)
                change wpList _ _ _ _ _ wr.drew
                have cqd : wr.drew.cell? ⟨q, j, none⟩ = some (.int .u8 ((ss[j]'(by omega)).toNat : Int)) := hcq
                have fqd : wr.drew.frozen? ⟨q, j, none⟩ = false := f2
                have c1d : wr.drew.cell? ⟨q + 1, j, none⟩ = some (.slice (some ⟨g, 0, none⟩) ln cap) := c1
                have f1d : wr.drew.frozen? ⟨q + 1, j, none⟩ = false := f1
                have HDd : Hid (DIn wr.drew p D9) := Lib.hid (DIn.keep HD.out (Fr.drew (Fr.refl _ _)))
                have HQd : Hid (Bk wr.drew q (ss.map B).toArray 49) := Lib.hid HQ.out
                have HLd := Lib.hid (Lat.keep HL.out (Fr.drew (Fr.refl (fun _ => False) _)) (fun h => h) (fun _ _ h => h))
                have HFd : Hid (Fr0 w wr.drew) := Lib.hid (Fr.drew HF.out)
                clear hcq f2 c1 f1 hce
                generalize wr.drew = wd at *
                go_wp2
                have HD8 := Lib.hid (DIn.past2 HDd.out HM1.out (Fr.set1 wd q j (.int .u8 (z.toNat : Int))) HQd.out (.inr (fun i x hx => by
                  rw [List.getElem?_toArray, List.getElem?_map] at hx
                  obtain ⟨v, -, hv⟩ := Option.map_eq_some_iff.1 hx
                  exact ⟨v, hv.symm⟩)) (by omega))
                have HQ8 : Hid (Bk (wd.setCell ⟨q, j, none⟩ (.int .u8 (z.toNat : Int))) q ((ss.set j z).map B).toArray 49) := Lib.hid (by
                  have := Bk.set HQd.out j (B z)
                  rw [List.setIfInBounds_toArray, ← List.map_set] at this
                  exact this)
                have HL8 := Lib.hid (Lat.keep HLd.out (Fr.set1 wd q j (.int .u8 (z.toNat : Int))) (by omega) (fun g hg => by omega))
                have HF8 : Hid (Fr0 w (wd.setCell ⟨q, j, none⟩ (.int .u8 (z.toNat : Int)))) := Lib.hid (Fr.set HFd.out (⟨q, j, none⟩ : Addr) (.int .u8 (z.toNat : Int)) (.inl (by have := HWP.out; show _ ≤ q; omega)))
                have HD7 := DIn.past2 HD8.out HM1.out (Fr.set1 (wd.setCell ⟨q, j, none⟩ (.int .u8 (z.toNat : Int))) (q + 1) j (.slice none 0 0)) HL8.out.blk (.inl (lat_no HL8.out)) (by omega)
                have HQ7 := (Fr.set1 (wd.setCell ⟨q, j, none⟩ (.int .u8 (z.toNat : Int))) (q + 1) j (.slice none 0 0)).keep HQ8.out (by omega)
                have HF7 : Fr0 w ((wd.setCell ⟨q, j, none⟩ (.int .u8 (z.toNat : Int))).setCell ⟨q + 1, j, none⟩ (.slice none 0 0)) := Fr.set HF8.out (⟨q + 1, j, none⟩ : Addr) (.slice none 0 0) (.inl (by have := HWP.out; show _ ≤ q + 1; omega))
                have HL7 := (Lat.put HL8.out hj4 (Bk.lt HL8.out.blk) (by omega) (.slice none 0 0) [] (Fr.refl _ _) (Own1.nil _ _) (fun g e => by simp [Value.ownBlock] at e)).1
                rw [lat_down] at HL7
                have hval : ∀ i, i < 4 → (ss.set j z)[i]? = if i < j + 1 then (sureL s Cs)[i]? else s[i]? := by
                  intro i hi
                  rw [List.getElem?_set]
                  rcases (show i = j ∨ i < j ∨ j < i by omega) with e | e | e
                  · subst e; rw [if_pos rfl, if_pos (by have := HSS.out; omega), if_pos (by omega), HSA.out i hi, HLO.out]
                  · rw [if_neg (by omega), HSV.out i hi, if_pos e, if_pos (by omega)]
                  · rw [if_neg (by omega), HSV.out i hi, if_neg (by omega), if_neg (by omega)]
                go_roundw
                case rel => exact ⟨j + 1, ss.set j z, _, by omega, by go_num, by rw [List.length_set]; exact HSS.out, hval, HD7, HQ7, HL7, HF7⟩
                case measure => simp [intOf]; omega
              · have hl0 : later Cs j = [] := List.eq_nil_of_length_eq_zero (by omega)
                have HL0 := Lib.hid hl0
                rw [hl0] at c1
                simp only [List.length_nil] at c1
                go_wp2
                have HD7 := DIn.past2 HD.out HM1.out (Fr.set1 wr (q + 1) j (.slice none 0 0)) HL.out.blk (.inl (lat_no HL.out)) (by omega)
                have HQ7 := (Fr.set1 wr (q + 1) j (.slice none 0 0)).keep HQ.out (by omega)
                have HF7 : Fr0 w (wr.setCell ⟨q + 1, j, none⟩ (.slice none 0 0)) := Fr.set HF.out (⟨q + 1, j, none⟩ : Addr) (.slice none 0 0) (.inl (by have := HWP.out; show _ ≤ q + 1; omega))
                have HL7 := (Lat.put HL.out hj4 (Bk.lt HL.out.blk) (by omega) (.slice none 0 0) [] (Fr.refl _ _) (Own1.nil _ _) (fun g e => by simp [Value.ownBlock] at e)).1
                rw [lat_down] at HL7
                have hval : ∀ i, i < 4 → ss[i]? = if i < j + 1 then (sureL s Cs)[i]? else s[i]? := by
                  intro i hi
                  rw [HSV.out i hi]
                  rcases (show i = j ∨ i < j ∨ j < i by omega) with e | e | e
                  · subst e; rw [if_neg (by omega), if_pos (by omega), HSA.out i hi, HL0.out, lastOr_nil, List.getElem?_eq_getElem (by have := HS.out; omega)]
                  · rw [if_pos e, if_pos (by omega)]
                  · rw [if_neg (by omega), if_neg (by omega)]
                go_roundw
                case rel => exact ⟨j + 1, ss, _, by omega, by go_num, HSS.out, hval, HD7, HQ7, HL7, HF7⟩
                case measure => simp [intOf]; omega
            · obtain rfl : j = 4 := by omega
              go_wp2
              have hse : ss = sureL s Cs := by
                apply List.ext_getElem?
                intro i
                by_cases hi : i < 4
                · rw [HSV.out i hi, if_pos hi]
                · rw [List.getElem?_eq_none (by have := HSS.out; omega), List.getElem?_eq_none (by have := HSL.out; omega)]
              subst hse
              go_roundw
              case rel => exact ⟨k + 1, _, [], vj, by omega, by go_num, HSL.out, in4_nil, Nat.zero_le _, by rw [HE9.out]; exact HD.out, HQ.out, HL.out.congr (fun i hi => by rw [if_pos hi, later_nil]), HF.out⟩
              case measure => simp [intOf]; omega
    · have HKB : ∀ a, ka = some a → keep ≠ [] → a.block ≠ p := fun a e hl => by
        subst e
        obtain ⟨b', o', e, hb, -⟩ := RdG.form HRD.out (List.length_pos_iff.2 hl) (fun _ => by simp)
        obtain rfl := Option.some.inj e
        have := HWP.out
        show b' ≠ p
        omega
      obtain ⟨sa, sc, ca, cc, hda⟩ := HD.out
      have HDX := Lib.hid hda
      have HCR := Lib.hid (crash_calls p ka kc keep (mkD s Cs f k) sa sc ca cc wr HM.out hda hkc hkm (RdB.keep HRD.out HF.out) HKB)
      rw [mk_crashE hs hc, mk_crashD hs hc] at HCR
      have HDN : Hid ((mkD (left s Cs keep) [] (-1) 0).ok) := Lib.hid (mk_ok in4_nil (by decide))
      have hll := left_len Cs keep hs
      have HLL := Lib.hid hll
      have HLI : Hid (∀ (j : Nat) (hj : j < 4), (left s Cs keep)[j]'(by omega) = s[j]'(by omega) ∨ (left s Cs keep)[j]'(by omega) ∈ later Cs j) := Lib.hid (fun j hj => left_in hs keep hj)
      clear hda
      go_wp2_with ((go_at_call 20; (with_reducible refine HCR.out.mono ?_); rintro e w5 ⟨rfl, ⟨h5, f5⟩⟩; have HD5 := Lib.hid h5; have HF5 : Hid (Fr0 w w5) := Lib.hid (Fr.newG HF.out f5 HWP.out); have HQ5 := Lib.hid (f5.keep HQ.out (by omega)); have HL5 := Lib.hid (Lat.keep HL.out f5 (by omega) (fun g hg => by omega)); clear h5 f5))
      clear HD HQ HL HF HDX HCR HM HKB
      go_loopw [15] (fun u wr => ∃ j : Nat, j ≤ 4 ∧ u = .int .i64 j ∧ DIn wr p (mkD (left s Cs keep) [] (-1) 0) ∧ Bk wr q (s.map B).toArray 49 ∧ Lat wr (q + 1 + 1) (q + 1) (later Cs) vs ∧ Fr0 w wr) (fun u _ => 4 - (intOf u).toNat)
      case atStart => exact ⟨0, Nat.zero_le _, rfl, HD5.out, HQ5.out, HL5.out, HF5.out⟩
      case round =>
        clear HD5 HQ5 HL5 HF5
        obtain ⟨j, hj, rfl, hD, hQ, hL, hF⟩ := hrel
        have HD := Lib.hid hD
        have HQ := Lib.hid hQ
        have HL := Lib.hid hL
        have HF := Lib.hid hF
        clear hD hQ hL hF
        by_cases hj4 : j < 4
        · have j4 : (j : Int) < 4 := by omega
          obtain ⟨sb, sd, cb, cd, hda⟩ := HD.out
          have HRE := Lib.hid (read_calls p (j : Int) (mkD (left s Cs keep) [] (-1) 0) sb sd cb cd wr HDN.out hda)
          rw [mk_read HLL.out hj4] at HRE
          have HZI := Lib.hid (HLI.out j hj4)
          have hsj : s.map B = s.map B := rfl
          have HSJ : Hid ((s.map B).toArray[j]? = some (.int .u8 ((s[j]'(by omega)).toNat : Int))) := Lib.hid (by rw [List.getElem?_toArray, List.getElem?_map, List.getElem?_eq_getElem (by omega)]; rfl)
          generalize (left s Cs keep)[j]'(by have := HLL.out; omega) = z at *
          generalize s[j]'(by omega) = sj at *
          simp only [readV] at HRE
          have HIB : Hid ((Try.prog.info? 29).map (·.size) = some ((blkd z).map B).toArray.size) := Lib.hid (by rw [info_b, List.size_toArray, List.length_map, blkd_len])
          have HZB : Hid (ZB.size = ((blkd z).map B).toArray.size) := Lib.hid ((show ZB.size = 128 by simp [ZB, Z128]).trans (by rw [List.size_toArray, List.length_map, blkd_len]))
          have HOB : Hid (((blkd z).map B).toArray.all (·.oneCell') = true) := Lib.hid (by simp [B, Value.oneCell'])
          have HY0 : Hid (((blkd z).map B).toArray[0]? = some (.int .u8 (z.toNat : Int))) := Lib.hid rfl
          generalize ((blkd z).map B).toArray = Y at *
          have hzb : ∀ W, (zeroValue 29).run Try.prog W = .ok (.agg ZB) W := by intro W; kernel_rfl
          clear hda hsj
          go_wp2_with (first | (go_at_call 11; (with_reducible refine HRE.out.mono ?_); rintro e w6 ⟨rfl, hf⟩; have HZ0 := Lib.hid (Bk.new w6 (.cells ZB 29)); have hfx := ArrKit.Fr.row (Fr.alloc hf (.cells ZB 29)) w6.heap.size Y (.inl hf.size); have HD6 := Lib.hid (DIn.keep HD.out hfx); have HQ6 := Lib.hid (hfx.keep HQ.out (fun h => h)); have HL6 := Lib.hid (Lat.keep HL.out hfx (fun h => h) (fun _ _ h => h)); have HF6 := Lib.hid (HF.out.then0 hfx); have HT6 : Hid (Bk ((w6.alloc (.cells ZB 29)).setRow w6.heap.size Y) w6.heap.size Y 29) := Lib.hid (ArrKit.Bk.row HZ0.out _); clear hf hfx) | ((with_reducible show wpList _ _ _ ({ dst := _, op := Op.store 29 _ _, type := _, pos := _, after := _, guard := _ } :: _) _ _); refine wpList_store_row rfl 29 _ _ rfl w6.heap.size Y rfl rfl 29 ZB HZ0.out HIB.out HZB.out HOB.out ?_))
          have cy : ((w6.alloc (.cells ZB 29)).setRow w6.heap.size Y).cell? ⟨w6.heap.size, 0, none⟩ = some (.int .u8 (z.toNat : Int)) := (Bk.cell HT6.out 0).trans HY0.out
          have cs : ((w6.alloc (.cells ZB 29)).setRow w6.heap.size Y).cell? ⟨q, j, none⟩ = some (.int .u8 (sj.toNat : Int)) := (Bk.cell HQ6.out j).trans HSJ.out
          clear hzb HZ0 HRE HIB HZB HOB
          generalize ((w6.alloc (.cells ZB 29)).setRow w6.heap.size Y) = w7 at *
          generalize w6.heap.size = t at *
          go_quiet (fail)
          go_wp2
          have HBB := beq8 z sj
          have HD7 : Hid (DIn (w7.drewN nq) p (mkD (left s Cs keep) [] (-1) 0)) := Lib.hid (DIn.keep HD6.out (Fr.drewN (Fr.refl _ _) nq))
          have HQ7 : Hid (Bk (w7.drewN nq) q (s.map B).toArray 49) := Lib.hid HQ6.out
          have HT7 : Hid (Bk (w7.drewN nq) t Y 29) := Lib.hid HT6.out
          have HL7 := Lib.hid (Lat.keep HL6.out (Fr.drewN (Fr.refl (fun _ => False) _) nq) (fun h => h) (fun _ _ h => h))
          have HF7 : Hid (Fr0 w (w7.drewN nq)) := Lib.hid (Fr.drewN HF6.out nq)
          clear HD6 HQ6 HL6 HF6 HT6 cy cs HD HQ HL HF
          generalize w7.drewN nq = w8 at *
          generalize hbb : ((z.toNat : Int) == (sj.toNat : Int)) = b0 at *
          have HB0 := Lib.hid hbb
          clear hbb
          obtain ⟨A, cap, hvj, hcap, hbl, hcl⟩ := (HL7.out.own j hj4).sure
          have HVJ := Lib.hid hvj
          have HLC : Hid ((later Cs j).length ≤ 200) := Lib.hid (Nat.le_trans (later_len Cs j) (by omega))
          clear hvj hcap hbl hcl
          go_loopw [18, 19] (fun v u wr => ∃ (i : Nat) (bb : Bool), i ≤ (later Cs j).length ∧ v = .bool bb ∧ u = .int .i64 i ∧ (bb = true ↔ z = sj ∨ z ∈ (later Cs j).take i) ∧ DIn wr p (mkD (left s Cs keep) [] (-1) 0) ∧ Bk wr q (s.map B).toArray 49 ∧ Bk wr t Y 29 ∧ Lat wr (q + 1 + 1) (q + 1) (later Cs) vs ∧ Fr0 w wr) (fun _ u _ => (later Cs j).length - (intOf u).toNat)
          case atStart => exact ⟨0, b0, Nat.zero_le _, rfl, rfl, by rw [List.take_zero]; simpa using HBB, HD7.out, HQ7.out, HT7.out, HL7.out, HF7.out⟩
          case round =>
            clear HD7 HQ7 HL7 HF7 HT7
            obtain ⟨i, bb, hi, rfl, rfl, hbi, hD, hQ, hT, hL, hF⟩ := hrel
            have HD := Lib.hid hD
            have HQ := Lib.hid hQ
            have HT := Lib.hid hT
            have HL := Lib.hid hL
            have HF := Lib.hid hF
            have HBI := Lib.hid hbi
            have c1 : wr.cell? ⟨q + 1, j, none⟩ = some (.slice A (later Cs j).length cap) := (Bk.cell hL.blk j).trans ((nth_at hL.len hj4).trans (by rw [HVJ.out]))
            have cy : wr.cell? ⟨t, 0, none⟩ = some (.int .u8 (z.toNat : Int)) := (Bk.cell hT 0).trans HY0.out
            obtain ⟨A', cap', hvj', hcap', -, hcl⟩ := (hL.own j hj4).sure
            have hAA : A' = A ∧ cap' = cap := by
              have := hvj'.symm.trans HVJ.out
              injection this with e1 e2 e3
              exact ⟨e1, e3⟩
            obtain ⟨rfl, rfl⟩ := hAA
            have hln2 := HLC.out
            clear hD hQ hT hL hF hbi hvj'
            by_cases hil : i < (later Cs j).length
            · obtain ⟨g, rfl, hce⟩ := hcl i hil
              have HTK : Hid ((later Cs j).take (i + 1) = (later Cs j).take i ++ [(later Cs j)[i]]) := Lib.hid (List.take_succ_eq_append_getElem hil)
              generalize (later Cs j)[i] = y at *
              simp only [B] at hce
              clear hcl
              generalize hln : (later Cs j).length = ln at *
              have HLN := Lib.hid hln
              clear hln
              have hil2 : (i : Int) < (ln : Int) := by omega
              cases bb with
              | true =>
                go_wp2
                go_quiet (fail)
                go_wp2
                have hD := DIn.keep HD.out (Fr.drewN (Fr.refl (fun _ => False) wr) nq)
                have hL := Lat.keep HL.out (Fr.drewN (Fr.refl (fun _ => False) wr) nq) (fun h => h) (fun _ _ h => h)
                have hF := Fr.drewN HF.out nq
                go_roundw
                case rel => exact ⟨i + 1, true, by omega, rfl, by go_num, by rw [HTK.out]; exact ⟨fun _ => (HBI.out.1 (by trivial)).imp id (fun h => List.mem_append_left _ h), fun _ => rfl⟩, hD, HQ.out, HT.out, hL, hF⟩
                case measure => simp [intOf]; omega
              | false =>
                go_wp2
                go_quiet (fail)
                go_wp2
                have hD := DIn.keep HD.out (Fr.drewN (Fr.refl (fun _ => False) wr) nq)
                have hL := Lat.keep HL.out (Fr.drewN (Fr.refl (fun _ => False) wr) nq) (fun h => h) (fun _ _ h => h)
                have hF := Fr.drewN HF.out nq
                have hb8 := beq8 z y
                go_roundw
                case rel => exact ⟨i + 1, _, by omega, rfl, by go_num, by
                  rw [HTK.out, hb8]
                  constructor
                  · intro e; right; rw [e]; simp
                  · rintro (e | e)
                    · exact absurd (HBI.out.2 (.inl e)) (by simp)
                    · rcases List.mem_append.1 e with h | h
                      · exact absurd (HBI.out.2 (.inr h)) (by simp)
                      · simpa using h, hD, HQ.out, HT.out, hL, hF⟩
                case measure => simp [intOf]; omega
            · have hie : i = (later Cs j).length := by omega
              have hbt : bb = true := by
                rw [HBI.out, hie, List.take_length]
                exact HZI.out
              subst hbt
              clear hie
              go_wp2
              go_roundw
              case rel => exact ⟨j + 1, by omega, by go_num, HD.out, HQ.out, HL.out, HF.out⟩
              case measure => simp [intOf]; omega
        · obtain rfl : j = 4 := by omega
          go_wp2
          go_ret
          exact ⟨rfl, HF.out⟩

end Go.Proofs.Ytboakipfhidkmaa.SureLaw
