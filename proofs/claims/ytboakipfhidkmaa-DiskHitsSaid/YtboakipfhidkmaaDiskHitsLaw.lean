/- The law DiskHits, walked. -/
import Derived.Test.YtboakipfhidkmaaDiskAlive
import Derived.Test.YtboakipfhidkmaaDiskSame
import Derived.Test.YtboakipfhidkmaaDiskRFlush
import Derived.Test.YtboakipfhidkmaaDiskRWrite
import Derived.Test.YtboakipfhidkmaaDiskRHit
set_option linter.unusedVariables false
set_option linter.unusedSimpArgs false
namespace Go.Proofs.Ytboakipfhidkmaa.DiskHitsLaw
open Go Go.RowKit Go.Proofs.Ytboakipfhidkmaa.K Go.Proofs.Ytboakipfhidkmaa.EqKit Go.Proofs.Ytboakipfhidkmaa.ArrKit Go.Proofs.Ytboakipfhidkmaa.HeldKit Go.Proofs.Ytboakipfhidkmaa.GKit Go.Proofs.Ytboakipfhidkmaa.GRow Go.Proofs.Ytboakipfhidkmaa.DiskKit Go.Proofs.Ytboakipfhidkmaa.DiskAsk Go.Proofs.Ytboakipfhidkmaa.DiskForm Go.Proofs.Ytboakipfhidkmaa.DiskAct Go.Proofs.Ytboakipfhidkmaa.DiskNew Go.Proofs.Ytboakipfhidkmaa.DiskCopy Go.Proofs.Ytboakipfhidkmaa.DiskTwins Go.Proofs.Ytboakipfhidkmaa.DiskSame Go.Proofs.Ytboakipfhidkmaa.DiskLay Go.Proofs.Ytboakipfhidkmaa.DiskFlush Go.Proofs.Ytboakipfhidkmaa.DiskRLay Go.Proofs.Ytboakipfhidkmaa.DiskRFlush Go.Proofs.Ytboakipfhidkmaa.DiskRRead Go.Proofs.Ytboakipfhidkmaa.DiskRead Go.Proofs.Ytboakipfhidkmaa.DiskWrite Go.Proofs.Ytboakipfhidkmaa.DiskRWrite Go.Proofs.Ytboakipfhidkmaa.DiskAlive Go.Proofs.Ytboakipfhidkmaa.DiskHit Go.Proofs.Ytboakipfhidkmaa.DiskRHit

set_option maxHeartbeats 2000000 in
set_option maxRecDepth 100000 in
theorem hits_all (d : Dk) (sa : Option Addr) (sc : Nat) (ca : Option Addr) (cc : Nat) (a kind place : Int) (y : UInt8) (w : World) (hok : d.ok) (hv : DV w d sa sc ca cc) (hS : d.S.length * 130 ≤ 140737488355328) (hC : d.C.length * 136 ≤ 140737488355328) : Calls Try.prog 8 #[.agg (dval d sa sc ca cc), .agg #[.int .i64 a, .int .i64 kind, .int .i64 place, .int .u8 (y.toNat : Int)]] w fun e w' => e = .returned (.bool true) ∧ Fr0 w w' := by
  have hs1 : (w.alloc (.cells (dval d sa sc ca cc) 25)).heap.size = w.heap.size + 1 := by simp
  have HX0 : Hid (Bk ((w.alloc (.cells (dval d sa sc ca cc) 25)).alloc (.cells #[.int .i64 a, .int .i64 kind, .int .i64 place, .int .u8 (y.toNat : Int)] 56)) (w.heap.size) (dval d sa sc ca cc) 25) := Lib.hid ((Bk.alloc (Bk.new w _) _))
  have HX1 : Hid (Bk ((w.alloc (.cells (dval d sa sc ca cc) 25)).alloc (.cells #[.int .i64 a, .int .i64 kind, .int .i64 place, .int .u8 (y.toNat : Int)] 56)) (w.heap.size + 1) #[.int .i64 a, .int .i64 kind, .int .i64 place, .int .u8 (y.toNat : Int)] 56) := Lib.hid ((by have := Bk.new (w.alloc (.cells (dval d sa sc ca cc) 25)) (.cells #[.int .i64 a, .int .i64 kind, .int .i64 place, .int .u8 (y.toNat : Int)] 56); rwa [hs1] at this))
  have HFB : Hid (Fr0 w ((w.alloc (.cells (dval d sa sc ca cc) 25)).alloc (.cells #[.int .i64 a, .int .i64 kind, .int .i64 place, .int .u8 (y.toNat : Int)] 56))) := Lib.hid (Fr.alloc (Fr.alloc (Fr.refl _ _) _) _)
  clear hs1
  have hz : ∀ W, (zeroValue 25).run Try.prog W = .ok (.agg DZ) W := by intro W; kernel_rfl
  have HVB := Lib.hid (hv.keep HFB.out)
  have HOK := Lib.hid hok
  have HTW : Hid (∀ W, DV W d sa sc ca cc → Calls Try.prog 10 #[.agg (dval d sa sc ca cc)] W fun e w' => ∃ s1 n1 c1 m1 s2 n2 c2 m2, e = .returned (.tuple #[.agg (dval d s1 n1 c1 m1), .agg (dval d s2 n2 c2 m2)]) ∧ DV w' d s1 n1 c1 m1 ∧ DV w' d s2 n2 c2 m2 ∧ Fr0 W w') := Lib.hid (fun W h => twins_calls d sa sc ca cc W hok h hS hC)
  have HID : Hid (∀ a b c e, (Try.prog.info? 25).map (·.size) = some (dval d a b c e).size) := Lib.hid (fun _ _ _ _ => info_d)
  have HDO : Hid (∀ a b c e, (dval d a b c e).all (·.oneCell') = true) := Lib.hid (fun _ _ _ _ => dval_one _ _ _ _ _)
  have HWR : Hid (∀ p W sa sc ca cc, DAt W p d sa sc ca cc → Calls Try.prog 26 #[.pointer (some ⟨p, 0, none⟩), .int .i64 a, .int .i64 kind, .int .i64 place, .int .u8 (y.toNat : Int)] W fun e w' => e = .returned (.int .i64 (hitE d a kind place)) ∧ Now W w' p (hitD d a kind place y)) := Lib.hid (fun p W sa sc ca cc h => hit_calls p a kind place y d sa sc ca cc W hok h)
  have HRW : Hid (∀ p W sa sc ca cc, DAt W p d sa sc ca cc → Calls Try.prog 27 #[.pointer (some ⟨p, 0, none⟩), .int .i64 a, .int .i64 kind, .int .i64 place, .int .u8 (y.toNat : Int)] W fun e w' => e = .returned (.int .i64 (hitE d a kind place)) ∧ Now W w' p (hitD d a kind place y)) := Lib.hid (fun p W sa sc ca cc h => rhit_calls p a kind place y d sa sc ca cc W hok h)
  have HOK9 := Lib.hid (hitD_ok hok a kind place y)
  have HSAME : Hid (∀ W y1 y2 y3 y4 z1 z2 z3 z4, DV W (hitD d a kind place y) y1 y2 y3 y4 → DV W (hitD d a kind place y) z1 z2 z3 z4 → Calls Try.prog 15 #[.agg (dval (hitD d a kind place y) y1 y2 y3 y4), .agg (dval (hitD d a kind place y) z1 z2 z3 z4)] W fun e w' => e = .returned (.bool true) ∧ Fr0 W w') := Lib.hid (fun W _ _ _ _ _ _ _ _ h h' => same_calls _ _ _ _ _ _ _ _ _ W (hitD_ok hok a kind place y) h h')
  have HID9 : Hid (∀ y1 y2 y3 y4, (Try.prog.info? 25).map (·.size) = some (dval (hitD d a kind place y) y1 y2 y3 y4).size) := Lib.hid (fun _ _ _ _ => info_d)
  have hEE : (hitE d a kind place == hitE d a kind place) = true := beq_self_eq_true _
  generalize hitE d a kind place = E at *
  generalize hitD d a kind place y = d9 at *
  clear hv hok hC
  go_enter Try.func8, Try.ntmps8
  go_wp2_with (first | (go_at_call 9; (with_reducible refine (alive_calls _).mono ?_); rintro e w1 ⟨rfl, hf1⟩; have HX0a := Lib.hid (hf1.keep HX0.out (fun h => h)); have HX1a := Lib.hid (hf1.keep HX1.out (fun h => h)); have HF1 := Lib.hid (HFB.out.then0 hf1); have HV1 := Lib.hid (HVB.out.keep hf1); clear hf1) | (go_at_call 10; (with_reducible refine (HTW.out _ HV1.out).mono ?_); rintro e w2 ⟨s1, n1, c1, m1, s2, n2, c2, m2, rfl, hv1, hv2, hf2⟩; have hs2 : (w2.alloc (.cells DZ 25)).heap.size = w2.heap.size + 1 := (by simp); have hp0 : Bk ((w2.alloc (.cells DZ 25)).alloc (.cells DZ 25)) w2.heap.size DZ 25 := Bk.alloc (Bk.new w2 _) _; have hq0 : Bk ((w2.alloc (.cells DZ 25)).alloc (.cells DZ 25)) (w2.heap.size + 1) DZ 25 := (by have := Bk.new (w2.alloc (.cells DZ 25)) (.cells DZ 25); rwa [hs2] at this); have hq1 : Bk (((w2.alloc (.cells DZ 25)).alloc (.cells DZ 25)).setRow w2.heap.size (dval d s1 n1 c1 m1)) (w2.heap.size + 1) DZ 25 := ArrKit.Bk.rowOther hq0 _ (by omega); have hfa : Fr0 w2 ((w2.alloc (.cells DZ 25)).alloc (.cells DZ 25)) := Fr.alloc (Fr.alloc (Fr.refl _ _) _) _; have hfw : Fr0 w2 ((((w2.alloc (.cells DZ 25)).alloc (.cells DZ 25)).setRow w2.heap.size (dval d s1 n1 c1 m1)).setRow (w2.heap.size + 1) (dval d s2 n2 c2 m2)) := ArrKit.Fr.row (ArrKit.Fr.row hfa _ _ (.inl (Nat.le_refl _))) _ _ (.inl (by omega)); have hf4 : Fr0 w1 ((((w2.alloc (.cells DZ 25)).alloc (.cells DZ 25)).setRow w2.heap.size (dval d s1 n1 c1 m1)).setRow (w2.heap.size + 1) (dval d s2 n2 c2 m2)) := hf2.then0 hfw; have hd1 := DV.past (DV.past (hv1.keep hfa) HOK.out (Fr.row1 _ w2.heap.size (dval d s1 n1 c1 m1)) hp0 DZ_no) HOK.out (Fr.row1 _ (w2.heap.size + 1) (dval d s2 n2 c2 m2)) hq1 DZ_no; have hd2 := DV.past (DV.past (hv2.keep hfa) HOK.out (Fr.row1 _ w2.heap.size (dval d s1 n1 c1 m1)) hp0 DZ_no) HOK.out (Fr.row1 _ (w2.heap.size + 1) (dval d s2 n2 c2 m2)) hq1 DZ_no; have HP4 : Hid (DAt ((((w2.alloc (.cells DZ 25)).alloc (.cells DZ 25)).setRow w2.heap.size (dval d s1 n1 c1 m1)).setRow (w2.heap.size + 1) (dval d s2 n2 c2 m2)) w2.heap.size d s1 n1 c1 m1) := Lib.hid ⟨ArrKit.Bk.rowOther (ArrKit.Bk.row hp0 _) _ (by omega), hd1⟩; have HQ4 : Hid (DAt ((((w2.alloc (.cells DZ 25)).alloc (.cells DZ 25)).setRow w2.heap.size (dval d s1 n1 c1 m1)).setRow (w2.heap.size + 1) (dval d s2 n2 c2 m2)) (w2.heap.size + 1) d s2 n2 c2 m2) := Lib.hid ⟨ArrKit.Bk.row hq1 _, hd2⟩; have HF4 : Hid (Fr0 w ((((w2.alloc (.cells DZ 25)).alloc (.cells DZ 25)).setRow w2.heap.size (dval d s1 n1 c1 m1)).setRow (w2.heap.size + 1) (dval d s2 n2 c2 m2))) := Lib.hid (HF1.out.then0 hf4); have HV4 : Hid (DV ((((w2.alloc (.cells DZ 25)).alloc (.cells DZ 25)).setRow w2.heap.size (dval d s1 n1 c1 m1)).setRow (w2.heap.size + 1) (dval d s2 n2 c2 m2)) d sa sc ca cc) := Lib.hid (HV1.out.keep hf4); have HX04 : Hid (Bk ((((w2.alloc (.cells DZ 25)).alloc (.cells DZ 25)).setRow w2.heap.size (dval d s1 n1 c1 m1)).setRow (w2.heap.size + 1) (dval d s2 n2 c2 m2)) (w.heap.size) (dval d sa sc ca cc) 25) := Lib.hid (hf4.keep HX0a.out (fun h => h)); have HX14 : Hid (Bk ((((w2.alloc (.cells DZ 25)).alloc (.cells DZ 25)).setRow w2.heap.size (dval d s1 n1 c1 m1)).setRow (w2.heap.size + 1) (dval d s2 n2 c2 m2)) (w.heap.size + 1) #[.int .i64 a, .int .i64 kind, .int .i64 place, .int .u8 (y.toNat : Int)] 56) := Lib.hid (hf4.keep HX1a.out (fun h => h)); have HSZ : Hid (w.heap.size ≤ w2.heap.size) := Lib.hid (HF1.out.then0 hf2).size; have HLT : Hid (w1.heap.size ≤ w2.heap.size) := Lib.hid hf2.size; have HZ0 := Lib.hid hp0; have HZ1 := Lib.hid hq1; clear hv1 hv2 hf2 hs2 hp0 hq0 hq1 hfa hfw hf4 hd1 hd2) | ((with_reducible show wpList _ _ _ ({ dst := _, op := Op.store 25 _ _, type := _, pos := _, after := _, guard := _ } :: _) _ _); refine wpList_store_row rfl 25 _ _ rfl w2.heap.size (dval d s1 n1 c1 m1) rfl rfl 25 DZ HZ0.out (HID.out _ _ _ _) rfl (HDO.out _ _ _ _) ?_) | ((with_reducible show wpList _ _ _ ({ dst := _, op := Op.store 25 _ _, type := _, pos := _, after := _, guard := _ } :: _) _ _); refine wpList_store_row rfl 25 _ _ rfl (w2.heap.size + 1) (dval d s2 n2 c2 m2) rfl rfl 25 DZ HZ1.out (HID.out _ _ _ _) rfl (HDO.out _ _ _ _) ?_) | ((with_reducible show wpList _ _ _ ({ dst := _, op := Op.load 25 _, type := _, pos := _, after := _, guard := _ } :: _) _ _); refine wpList_load_row_g (by rfl) 25 _ rfl w.heap.size rfl 25 _ (0, 0) _ HX0a.out Try.underlying25 rfl (HID.out _ _ _ _) ?_))
  have hxl : w.heap.size + 1 < w2.heap.size := by
    have h1 := Bk.lt HX1a.out
    have h2 := HLT.out
    omega
  have HST : Hid (Stand [(w.heap.size + 1, .cells #[.int .i64 a, .int .i64 kind, .int .i64 place, .int .u8 (y.toNat : Int)] 56 (0, 0))] ((((w2.alloc (.cells DZ 25)).alloc (.cells DZ 25)).setRow w2.heap.size (dval d s1 n1 c1 m1)).setRow (w2.heap.size + 1) (dval d s2 n2 c2 m2))) := Lib.hid (Stand.cons HX14.out (Stand.nil _))
  have HP5 : Hid (DAt ((((w2.alloc (.cells DZ 25)).alloc (.cells DZ 25)).setRow w2.heap.size (dval d s1 n1 c1 m1)).setRow (w2.heap.size + 1) (dval d s2 n2 c2 m2)).drew w2.heap.size d s1 n1 c1 m1) := Lib.hid (HP4.out.keep (Fr.drew (Fr.refl _ _)))
  have HQ5 : Hid (DAt ((((w2.alloc (.cells DZ 25)).alloc (.cells DZ 25)).setRow w2.heap.size (dval d s1 n1 c1 m1)).setRow (w2.heap.size + 1) (dval d s2 n2 c2 m2)).drew (w2.heap.size + 1) d s2 n2 c2 m2) := Lib.hid (HQ4.out.keep (Fr.drew (Fr.refl _ _)))
  have HF5 : Hid (Fr0 w ((((w2.alloc (.cells DZ 25)).alloc (.cells DZ 25)).setRow w2.heap.size (dval d s1 n1 c1 m1)).setRow (w2.heap.size + 1) (dval d s2 n2 c2 m2)).drew) := Lib.hid (Fr.drew HF4.out)
  refine wp_region_noPanic ?_
  refine wp_region_held_drew (S := (Stand [(w.heap.size + 1, .cells #[.int .i64 a, .int .i64 kind, .int .i64 place, .int .u8 (y.toNat : Int)] 56 (0, 0))])) (by kernel_rfl) (Stand.drew HST.out) (fun hHeld0 => ?_)
  generalize ((((w2.alloc (.cells DZ 25)).alloc (.cells DZ 25)).setRow w2.heap.size (dval d s1 n1 c1 m1)).setRow (w2.heap.size + 1) (dval d s2 n2 c2 m2)).drew = w5 at *
  change wpAnyH _ _ _ _ _ 20 #[false, false, false, false, false, false, false, false, false, false, false, false, false, false, false, false, false, false, false, false] _ _
  refine wpAnyH_take (i := 0) (v := .pointer (some ⟨w.heap.size + 1, 0, none⟩)) rfl (by kernel_rfl) (by kernel_rfl) (by kernel_rfl) (fun _ _ _ h => h) (Or.inl ⟨by kernel_rfl, fun w hSw => by first | kernel_rfl | (go_simp; done)⟩) hHeld0 ?_
  simp only [Act.put, List.getElem_toArray, List.getElem_cons_succ, List.getElem_cons_zero, List.setIfInBounds_toArray, List.set_cons_zero, List.set_cons_succ]
  change wpAnyH _ _ _ _ _ 19 #[true, false, false, false, false, false, false, false, false, false, false, false, false, false, false, false, false, false, false, false] _ _
  refine wpAnyH_take (i := 1) (v := .int .i64 a) rfl (by kernel_rfl) (by kernel_rfl) (by kernel_rfl) (fun _ _ _ h => h) (Or.inl ⟨by kernel_rfl, fun w hSw => by have hcl := (fun W h => Bk.cell (Stand.a0 h) 0) w hSw; go_simp⟩) hHeld0 ?_
  simp only [Act.put, List.getElem_toArray, List.getElem_cons_succ, List.getElem_cons_zero, List.setIfInBounds_toArray, List.set_cons_zero, List.set_cons_succ]
  change wpAnyH _ _ _ _ _ 18 #[true, true, false, false, false, false, false, false, false, false, false, false, false, false, false, false, false, false, false, false] _ _
  refine wpAnyH_take (i := 2) (v := .pointer (some ⟨w.heap.size + 1, 1, none⟩)) rfl (by kernel_rfl) (by kernel_rfl) (by kernel_rfl) (fun _ _ _ h => h) (Or.inl ⟨by kernel_rfl, fun w hSw => by first | kernel_rfl | (go_simp; done)⟩) hHeld0 ?_
  simp only [Act.put, List.getElem_toArray, List.getElem_cons_succ, List.getElem_cons_zero, List.setIfInBounds_toArray, List.set_cons_zero, List.set_cons_succ]
  change wpAnyH _ _ _ _ _ 17 #[true, true, true, false, false, false, false, false, false, false, false, false, false, false, false, false, false, false, false, false] _ _
  refine wpAnyH_take (i := 3) (v := .int .i64 kind) rfl (by kernel_rfl) (by kernel_rfl) (by kernel_rfl) (fun _ _ _ h => h) (Or.inl ⟨by kernel_rfl, fun w hSw => by have hcl := (fun W h => Bk.cell (Stand.a0 h) 1) w hSw; go_simp⟩) hHeld0 ?_
  simp only [Act.put, List.getElem_toArray, List.getElem_cons_succ, List.getElem_cons_zero, List.setIfInBounds_toArray, List.set_cons_zero, List.set_cons_succ]
  change wpAnyH _ _ _ _ _ 16 #[true, true, true, true, false, false, false, false, false, false, false, false, false, false, false, false, false, false, false, false] _ _
  refine wpAnyH_take (i := 4) (v := .pointer (some ⟨w.heap.size + 1, 2, none⟩)) rfl (by kernel_rfl) (by kernel_rfl) (by kernel_rfl) (fun _ _ _ h => h) (Or.inl ⟨by kernel_rfl, fun w hSw => by first | kernel_rfl | (go_simp; done)⟩) hHeld0 ?_
  simp only [Act.put, List.getElem_toArray, List.getElem_cons_succ, List.getElem_cons_zero, List.setIfInBounds_toArray, List.set_cons_zero, List.set_cons_succ]
  change wpAnyH _ _ _ _ _ 15 #[true, true, true, true, true, false, false, false, false, false, false, false, false, false, false, false, false, false, false, false] _ _
  refine wpAnyH_take (i := 5) (v := .int .i64 place) rfl (by kernel_rfl) (by kernel_rfl) (by kernel_rfl) (fun _ _ _ h => h) (Or.inl ⟨by kernel_rfl, fun w hSw => by have hcl := (fun W h => Bk.cell (Stand.a0 h) 2) w hSw; go_simp⟩) hHeld0 ?_
  simp only [Act.put, List.getElem_toArray, List.getElem_cons_succ, List.getElem_cons_zero, List.setIfInBounds_toArray, List.set_cons_zero, List.set_cons_succ]
  change wpAnyH _ _ _ _ _ 14 #[true, true, true, true, true, true, false, false, false, false, false, false, false, false, false, false, false, false, false, false] _ _
  refine wpAnyH_take (i := 6) (v := .pointer (some ⟨w.heap.size + 1, 3, none⟩)) rfl (by kernel_rfl) (by kernel_rfl) (by kernel_rfl) (fun _ _ _ h => h) (Or.inl ⟨by kernel_rfl, fun w hSw => by first | kernel_rfl | (go_simp; done)⟩) hHeld0 ?_
  simp only [Act.put, List.getElem_toArray, List.getElem_cons_succ, List.getElem_cons_zero, List.setIfInBounds_toArray, List.set_cons_zero, List.set_cons_succ]
  change wpAnyH _ _ _ _ _ 13 #[true, true, true, true, true, true, true, false, false, false, false, false, false, false, false, false, false, false, false, false] _ _
  refine wpAnyH_take (i := 7) (v := .int .u8 (y.toNat : Int)) rfl (by kernel_rfl) (by kernel_rfl) (by kernel_rfl) (fun _ _ _ h => h) (Or.inl ⟨by kernel_rfl, fun w hSw => by have hcl := (fun W h => Bk.cell (Stand.a0 h) 3) w hSw; go_simp⟩) hHeld0 ?_
  simp only [Act.put, List.getElem_toArray, List.getElem_cons_succ, List.getElem_cons_zero, List.setIfInBounds_toArray, List.set_cons_zero, List.set_cons_succ]
  change wpAnyH _ _ _ _ _ 12 #[true, true, true, true, true, true, true, true, false, false, false, false, false, false, false, false, false, false, false, false] _ _
  refine wpAnyH_take (i := 9) (v := .pointer (some ⟨w.heap.size + 1, 0, none⟩)) rfl (by kernel_rfl) (by kernel_rfl) (by kernel_rfl) (fun _ _ _ h => h) (Or.inl ⟨by kernel_rfl, fun w hSw => by first | kernel_rfl | (go_simp; done)⟩) hHeld0 ?_
  simp only [Act.put, List.getElem_toArray, List.getElem_cons_succ, List.getElem_cons_zero, List.setIfInBounds_toArray, List.set_cons_zero, List.set_cons_succ]
  change wpAnyH _ _ _ _ _ 11 #[true, true, true, true, true, true, true, true, false, true, false, false, false, false, false, false, false, false, false, false] _ _
  refine wpAnyH_take (i := 10) (v := .int .i64 a) rfl (by kernel_rfl) (by kernel_rfl) (by kernel_rfl) (fun _ _ _ h => h) (Or.inl ⟨by kernel_rfl, fun w hSw => by have hcl := (fun W h => Bk.cell (Stand.a0 h) 0) w hSw; go_simp⟩) hHeld0 ?_
  simp only [Act.put, List.getElem_toArray, List.getElem_cons_succ, List.getElem_cons_zero, List.setIfInBounds_toArray, List.set_cons_zero, List.set_cons_succ]
  change wpAnyH _ _ _ _ _ 10 #[true, true, true, true, true, true, true, true, false, true, true, false, false, false, false, false, false, false, false, false] _ _
  refine wpAnyH_take (i := 11) (v := .pointer (some ⟨w.heap.size + 1, 1, none⟩)) rfl (by kernel_rfl) (by kernel_rfl) (by kernel_rfl) (fun _ _ _ h => h) (Or.inl ⟨by kernel_rfl, fun w hSw => by first | kernel_rfl | (go_simp; done)⟩) hHeld0 ?_
  simp only [Act.put, List.getElem_toArray, List.getElem_cons_succ, List.getElem_cons_zero, List.setIfInBounds_toArray, List.set_cons_zero, List.set_cons_succ]
  change wpAnyH _ _ _ _ _ 9 #[true, true, true, true, true, true, true, true, false, true, true, true, false, false, false, false, false, false, false, false] _ _
  refine wpAnyH_take (i := 12) (v := .int .i64 kind) rfl (by kernel_rfl) (by kernel_rfl) (by kernel_rfl) (fun _ _ _ h => h) (Or.inl ⟨by kernel_rfl, fun w hSw => by have hcl := (fun W h => Bk.cell (Stand.a0 h) 1) w hSw; go_simp⟩) hHeld0 ?_
  simp only [Act.put, List.getElem_toArray, List.getElem_cons_succ, List.getElem_cons_zero, List.setIfInBounds_toArray, List.set_cons_zero, List.set_cons_succ]
  change wpAnyH _ _ _ _ _ 8 #[true, true, true, true, true, true, true, true, false, true, true, true, true, false, false, false, false, false, false, false] _ _
  refine wpAnyH_take (i := 13) (v := .pointer (some ⟨w.heap.size + 1, 2, none⟩)) rfl (by kernel_rfl) (by kernel_rfl) (by kernel_rfl) (fun _ _ _ h => h) (Or.inl ⟨by kernel_rfl, fun w hSw => by first | kernel_rfl | (go_simp; done)⟩) hHeld0 ?_
  simp only [Act.put, List.getElem_toArray, List.getElem_cons_succ, List.getElem_cons_zero, List.setIfInBounds_toArray, List.set_cons_zero, List.set_cons_succ]
  change wpAnyH _ _ _ _ _ 7 #[true, true, true, true, true, true, true, true, false, true, true, true, true, true, false, false, false, false, false, false] _ _
  refine wpAnyH_take (i := 14) (v := .int .i64 place) rfl (by kernel_rfl) (by kernel_rfl) (by kernel_rfl) (fun _ _ _ h => h) (Or.inl ⟨by kernel_rfl, fun w hSw => by have hcl := (fun W h => Bk.cell (Stand.a0 h) 2) w hSw; go_simp⟩) hHeld0 ?_
  simp only [Act.put, List.getElem_toArray, List.getElem_cons_succ, List.getElem_cons_zero, List.setIfInBounds_toArray, List.set_cons_zero, List.set_cons_succ]
  change wpAnyH _ _ _ _ _ 6 #[true, true, true, true, true, true, true, true, false, true, true, true, true, true, true, false, false, false, false, false] _ _
  refine wpAnyH_take (i := 15) (v := .pointer (some ⟨w.heap.size + 1, 3, none⟩)) rfl (by kernel_rfl) (by kernel_rfl) (by kernel_rfl) (fun _ _ _ h => h) (Or.inl ⟨by kernel_rfl, fun w hSw => by first | kernel_rfl | (go_simp; done)⟩) hHeld0 ?_
  simp only [Act.put, List.getElem_toArray, List.getElem_cons_succ, List.getElem_cons_zero, List.setIfInBounds_toArray, List.set_cons_zero, List.set_cons_succ]
  change wpAnyH _ _ _ _ _ 5 #[true, true, true, true, true, true, true, true, false, true, true, true, true, true, true, true, false, false, false, false] _ _
  refine wpAnyH_take (i := 16) (v := .int .u8 (y.toNat : Int)) rfl (by kernel_rfl) (by kernel_rfl) (by kernel_rfl) (fun _ _ _ h => h) (Or.inl ⟨by kernel_rfl, fun w hSw => by have hcl := (fun W h => Bk.cell (Stand.a0 h) 3) w hSw; go_simp⟩) hHeld0 ?_
  simp only [Act.put, List.getElem_toArray, List.getElem_cons_succ, List.getElem_cons_zero, List.setIfInBounds_toArray, List.set_cons_zero, List.set_cons_succ]
  change wpAnyH _ _ _ _ _ 4 #[true, true, true, true, true, true, true, true, false, true, true, true, true, true, true, true, true, false, false, false] _ _
  refine wpAnyH_ready (rs := [8]) (by kernel_rfl) (by simp) ?_
  refine AllReadyH.cons rfl (fun K hK => ?_) AllReadyH.nil
  simp only [List.getElem_toArray, List.getElem_cons_succ, List.getElem_cons_zero]
  refine (if_pos (by kernel_rfl)).mpr ?_
  go_wp2_with fail
  refine (HWR.out _ _ _ _ _ _ HP5.out).mono ?_
  rintro e wx0 ⟨rfl, ⟨hin, hfx0⟩⟩
  dsimp only
  have HP6 := Lib.hid hin
  have HQ6 := Lib.hid (DIn.past ⟨_, _, _, _, HQ5.out⟩ HOK.out ⟨_, _, _, _, HP5.out⟩ hfx0 (show w2.heap.size + 1 ≠ w2.heap.size by omega))
  have HF6 := Lib.hid (Fr.newG HF5.out hfx0 HSZ.out)
  obtain ⟨s3, n3, c3, m3, hq6⟩ := HQ6.out
  have HQ7 := Lib.hid hq6
  clear hin hq6
  refine hK.out _ _ (Stand.fr hHeld0 hfx0 (fun r hr => by simp only [List.mem_cons, List.not_mem_nil, or_false] at hr; subst hr; show ¬ w.heap.size + 1 = w2.heap.size; omega)) (fun hHeld1 => ?_)
  clear hK K hHeld0
  change wpAnyH _ _ _ _ _ 3 #[true, true, true, true, true, true, true, true, true, true, true, true, true, true, true, true, true, false, false, false] _ _
  refine wpAnyH_ready (rs := [17]) (by kernel_rfl) (by simp) ?_
  refine AllReadyH.cons rfl (fun K hK => ?_) AllReadyH.nil
  simp only [List.getElem_toArray, List.getElem_cons_succ, List.getElem_cons_zero]
  refine (if_pos (by kernel_rfl)).mpr ?_
  go_wp2_with fail
  refine (HRW.out _ _ _ _ _ _ HQ7.out).mono ?_
  rintro e wx1 ⟨rfl, ⟨hin, hfx1⟩⟩
  dsimp only
  have HQ8 := Lib.hid hin
  have HP8 := Lib.hid (DIn.past HP6.out HOK9.out ⟨_, _, _, _, HQ7.out⟩ hfx1 (show w2.heap.size ≠ w2.heap.size + 1 by omega))
  have HF8 := Lib.hid (Fr.newG HF6.out hfx1 (show w.heap.size ≤ w2.heap.size + 1 by have := HSZ.out; omega))
  clear hin
  refine hK.out _ _ (Stand.fr hHeld1 hfx1 (fun r hr => by simp only [List.mem_cons, List.not_mem_nil, or_false] at hr; subst hr; show ¬ w.heap.size + 1 = w2.heap.size + 1; omega)) (fun hHeld2 => ?_)
  clear hK K hHeld1
  change wpAnyH _ _ _ _ _ 2 #[true, true, true, true, true, true, true, true, true, true, true, true, true, true, true, true, true, true, false, false] _ _
  refine wpAnyH_take (i := 18) (v := .int .i64 E) rfl (by kernel_rfl) (by kernel_rfl) (by kernel_rfl) (fun _ _ _ h => h) (Or.inl ⟨by kernel_rfl, fun w hSw => by first | kernel_rfl | (go_simp; done)⟩) hHeld2 ?_
  simp only [Act.put, List.getElem_toArray, List.getElem_cons_succ, List.getElem_cons_zero, List.setIfInBounds_toArray, List.set_cons_zero, List.set_cons_succ]
  change wpAnyH _ _ _ _ _ 1 #[true, true, true, true, true, true, true, true, true, true, true, true, true, true, true, true, true, true, true, false] _ _
  refine wpAnyH_take (i := 19) (v := .int .i64 E) rfl (by kernel_rfl) (by kernel_rfl) (by kernel_rfl) (fun _ _ _ h => h) (Or.inl ⟨by kernel_rfl, fun w hSw => by first | kernel_rfl | (go_simp; done)⟩) hHeld2 ?_
  simp only [Act.put, List.getElem_toArray, List.getElem_cons_succ, List.getElem_cons_zero, List.setIfInBounds_toArray, List.set_cons_zero, List.set_cons_succ]
  change wpAnyH _ _ _ _ _ 0 #[true, true, true, true, true, true, true, true, true, true, true, true, true, true, true, true, true, true, true, true] _ _
  refine wpAnyH_done (by kernel_rfl) ?_ _
  refine NoPanic.normal ?_
  have HEND := Lib.hid hHeld2
  clear hHeld2
  obtain ⟨s8, n8, c8, m8, hp8⟩ := HP8.out
  obtain ⟨s9, n9, c9, m9, hq9⟩ := HQ8.out
  have HP9 := Lib.hid hp8
  have HQ9 := Lib.hid hq9
  have HF9 := HF8
  clear hp8 hq9
  go_wp2_with (first | ((with_reducible show wpList _ _ _ ({ dst := _, op := Op.load 25 _, type := _, pos := _, after := _, guard := _ } :: _) _ _); refine wpList_load_row_g (by rfl) 25 _ rfl w2.heap.size rfl 25 _ (0, 0) _ HP9.out.blk Try.underlying25 rfl (HID9.out _ _ _ _) ?_) | ((with_reducible show wpList _ _ _ ({ dst := _, op := Op.load 25 _, type := _, pos := _, after := _, guard := _ } :: _) _ _); refine wpList_load_row_g (by rfl) 25 _ rfl (w2.heap.size + 1) rfl 25 _ (0, 0) _ HQ9.out.blk Try.underlying25 rfl (HID9.out _ _ _ _) ?_) | (go_at_call 15; (with_reducible refine (HSAME.out _ _ _ _ _ _ _ _ _ HP9.out.v HQ9.out.v).mono ?_); rintro e w10 ⟨rfl, hf10⟩; have HF10 := Lib.hid (HF9.out.then0 hf10); clear hf10))
  go_ret
  exact ⟨rfl, HF10.out⟩

end Go.Proofs.Ytboakipfhidkmaa.DiskHitsLaw
