/- The law DiskReads, walked. -/
import Derived.Test.YtboakipfhidkmaaDiskAlive
import Derived.Test.YtboakipfhidkmaaDiskSame
import Derived.Test.YtboakipfhidkmaaDiskRFlush
import Derived.Test.YtboakipfhidkmaaDiskRWrite
set_option linter.unusedVariables false
set_option linter.unusedSimpArgs false
namespace Go.Proofs.Ytboakipfhidkmaa.DiskReadsLaw
open Go Go.RowKit Go.Proofs.Ytboakipfhidkmaa.K Go.Proofs.Ytboakipfhidkmaa.EqKit Go.Proofs.Ytboakipfhidkmaa.ArrKit Go.Proofs.Ytboakipfhidkmaa.HeldKit Go.Proofs.Ytboakipfhidkmaa.GKit Go.Proofs.Ytboakipfhidkmaa.GRow Go.Proofs.Ytboakipfhidkmaa.DiskKit Go.Proofs.Ytboakipfhidkmaa.DiskAsk Go.Proofs.Ytboakipfhidkmaa.DiskForm Go.Proofs.Ytboakipfhidkmaa.DiskAct Go.Proofs.Ytboakipfhidkmaa.DiskNew Go.Proofs.Ytboakipfhidkmaa.DiskCopy Go.Proofs.Ytboakipfhidkmaa.DiskTwins Go.Proofs.Ytboakipfhidkmaa.DiskSame Go.Proofs.Ytboakipfhidkmaa.DiskLay Go.Proofs.Ytboakipfhidkmaa.DiskFlush Go.Proofs.Ytboakipfhidkmaa.DiskRLay Go.Proofs.Ytboakipfhidkmaa.DiskRFlush Go.Proofs.Ytboakipfhidkmaa.DiskRRead Go.Proofs.Ytboakipfhidkmaa.DiskRead Go.Proofs.Ytboakipfhidkmaa.DiskWrite Go.Proofs.Ytboakipfhidkmaa.DiskRWrite Go.Proofs.Ytboakipfhidkmaa.DiskAlive

theorem last_len {C : List Wri} (h : ∀ x ∈ C, x.ok) {a : Int} {b : List UInt8} (hl : lastAt C a = some b) : b.length = 128 := by
  have key : ∀ (l : List Wri), (∀ x ∈ l, x.ok) → ∀ (r : Option (List UInt8)), (∀ c, r = some c → c.length = 128) → ∀ c, l.foldl (fun r x => if x.pos = a then some x.data else r) r = some c → c.length = 128 := by
    intro l
    induction l with
    | nil => intro _ r hr c hc; exact hr c hc
    | cons x l ih =>
      intro hx r hr c hc
      rw [List.foldl_cons] at hc
      refine ih (fun y hy => hx y (List.mem_cons_of_mem _ hy)) _ (fun c' hc' => ?_) c hc
      split at hc'
      · cases hc'; exact (hx x (List.mem_cons_self ..)).len
      · exact hr c' hc'
  exact key C h none (fun c hc => by cases hc) b hl
theorem readX_len {d : Dk} (h : d.ok) (a : Int) : (readX d a).1.length = 128 := by
  unfold readX
  have hz : Z128.length = 128 := by simp [Z128]
  split
  · exact hz
  · split
    · exact hz
    · split
      · rename_i b hb; exact last_len h.c hb
      · split
        · exact hz
        · show (secAt d a).data.length = 128
          unfold secAt
          rw [List.getD_eq_getElem?_getD]
          by_cases hi : a.toNat < d.S.length
          · rw [List.getElem?_eq_getElem hi]; exact h.s _ (List.getElem_mem hi)
          · rw [List.getElem?_eq_none (by omega)]; exact hz
set_option maxHeartbeats 2000000 in
set_option maxRecDepth 100000 in
theorem reads_all (d : Dk) (sa : Option Addr) (sc : Nat) (ca : Option Addr) (cc : Nat) (a n : Int) (w : World) (hok : d.ok) (hv : DV w d sa sc ca cc) (hS : d.S.length * 130 ≤ 140737488355328) (hC : d.C.length * 136 ≤ 140737488355328) : Calls Try.prog 3 #[.agg (dval d sa sc ca cc), .int .i64 a, .int .i64 n] w fun e w' => e = .returned (.bool true) ∧ Fr0 w w' := by
  have HX0 : Hid (Bk (w.alloc (.cells (dval d sa sc ca cc) 25)) (w.heap.size) (dval d sa sc ca cc) 25) := Lib.hid ((Bk.new w _))
  have HFB : Hid (Fr0 w (w.alloc (.cells (dval d sa sc ca cc) 25))) := Lib.hid (Fr.alloc (Fr.refl _ _) _)
  have hz : ∀ W, (zeroValue 25).run Try.prog W = .ok (.agg DZ) W := by intro W; kernel_rfl
  have HVB := Lib.hid (hv.keep HFB.out)
  have HOK := Lib.hid hok
  have HTW : Hid (∀ W, DV W d sa sc ca cc → Calls Try.prog 10 #[.agg (dval d sa sc ca cc)] W fun e w' => ∃ s1 n1 c1 m1 s2 n2 c2 m2, e = .returned (.tuple #[.agg (dval d s1 n1 c1 m1), .agg (dval d s2 n2 c2 m2)]) ∧ DV w' d s1 n1 c1 m1 ∧ DV w' d s2 n2 c2 m2 ∧ Fr0 W w') := Lib.hid (fun W h => twins_calls d sa sc ca cc W hok h hS hC)
  have HID : Hid (∀ a b c e, (Try.prog.info? 25).map (·.size) = some (dval d a b c e).size) := Lib.hid (fun _ _ _ _ => info_d)
  have HDO : Hid (∀ a b c e, (dval d a b c e).all (·.oneCell') = true) := Lib.hid (fun _ _ _ _ => dval_one _ _ _ _ _)
  have hzb : ∀ W, (zeroValue 29).run Try.prog W = .ok (.agg ZB) W := by intro W; kernel_rfl
  have hrl : (readX d a).1.length = 128 := readX_len hok a
  have heb := fun W => eq_bytes (P := Try.prog) Try.underlying29 Try.underlying5 (by kernel_rfl) (by kernel_rfl) (by kernel_rfl) (readX d a).1 (readX d a).1 hrl hrl W
  simp only [decide_true] at heb
  have HEB := Lib.hid heb
  have HRE : Hid (∀ p W sa sc ca cc, DAt W p d sa sc ca cc → Calls Try.prog 11 #[.pointer (some ⟨p, 0, none⟩), .int .i64 a] W fun e w' => e = .returned (.tuple #[.agg ((readX d a).1.map B).toArray, .int .i64 (readX d a).2]) ∧ Fr0 W w') := Lib.hid (fun p W sa sc ca cc h => read_calls p a d sa sc ca cc W hok h)
  have HRR : Hid (∀ p W sa sc ca cc, DAt W p d sa sc ca cc → Calls Try.prog 12 #[.pointer (some ⟨p, 0, none⟩), .int .i64 a] W fun e w' => e = .returned (.tuple #[.agg ((readX d a).1.map B).toArray, .int .i64 (readX d a).2]) ∧ Fr0 W w') := Lib.hid (fun p W sa sc ca cc h => rread_calls p a d sa sc ca cc W hok h)
  have HNE : Hid (∀ W, Calls Try.prog 13 #[.int .i64 n] W fun e w' => Gives W w' (newD n) e (newE n)) := Lib.hid (fun W => new_calls n W)
  have HRN : Hid (∀ W, Calls Try.prog 14 #[.int .i64 n] W fun e w' => Gives W w' (newD n) e (newE n)) := Lib.hid (fun W => rnew_calls n W)
  have hokn := newD_ok n
  have HOKN := Lib.hid hokn
  have HIDN : Hid (∀ y1 y2 y3 y4, (Try.prog.info? 25).map (·.size) = some (dval (newD n) y1 y2 y3 y4).size) := Lib.hid (fun _ _ _ _ => info_d)
  have HDON : Hid (∀ y1 y2 y3 y4, (dval (newD n) y1 y2 y3 y4).all (·.oneCell') = true) := Lib.hid (fun _ _ _ _ => dval_one _ _ _ _ _)
  have HSN : Hid (∀ W y1 y2 y3 y4 z1 z2 z3 z4, DV W (newD n) y1 y2 y3 y4 → DV W (newD n) z1 z2 z3 z4 → Calls Try.prog 15 #[.agg (dval (newD n) y1 y2 y3 y4), .agg (dval (newD n) z1 z2 z3 z4)] W fun e w' => e = .returned (.bool true) ∧ Fr0 W w') := Lib.hid (fun W _ _ _ _ _ _ _ _ h h' => same_calls _ _ _ _ _ _ _ _ _ W hokn h h')
  have HSD : Hid (∀ W y1 y2 y3 y4 z1 z2 z3 z4, DV W d y1 y2 y3 y4 → DV W d z1 z2 z3 z4 → Calls Try.prog 15 #[.agg (dval d y1 y2 y3 y4), .agg (dval d z1 z2 z3 z4)] W fun e w' => e = .returned (.bool true) ∧ Fr0 W w') := Lib.hid (fun W _ _ _ _ _ _ _ _ h h' => same_calls _ _ _ _ _ _ _ _ _ W hok h h')
  have HFO : Hid (∀ W, DV W d sa sc ca cc → Calls Try.prog 16 #[.agg (dval d sa sc ca cc)] W fun e w' => e = .returned (.bool (formedB d)) ∧ Fr0 W w') := Lib.hid (fun W h => formed_calls d sa sc ca cc W hok h)
  have HRF : Hid (∀ W, DV W d sa sc ca cc → Calls Try.prog 17 #[.agg (dval d sa sc ca cc)] W fun e w' => e = .returned (.bool (formedB d)) ∧ Fr0 W w') := Lib.hid (fun W h => rformed_calls d sa sc ca cc W h)
  have HIB : Hid ((Try.prog.info? 29).map (·.size) = some ((readX d a).1.map B).toArray.size) := Lib.hid (by rw [info_b, List.size_toArray, List.length_map, hrl])
  have HZB : Hid (ZB.size = ((readX d a).1.map B).toArray.size) := Lib.hid ((show ZB.size = 128 by simp [ZB, Z128]).trans (by rw [List.size_toArray, List.length_map, hrl]))
  have HOB : Hid (((readX d a).1.map B).toArray.all (·.oneCell') = true) := Lib.hid (by simp [B, Value.oneCell'])
  generalize ((readX d a).1.map B).toArray = RB at *
  generalize (readX d a).2 = RE at *
  generalize newD n = dn at *
  generalize newE n = NE at *
  generalize formedB d = FD at *
  have hRR : (RE == RE) = true := beq_self_eq_true _
  have hNN : (NE == NE) = true := beq_self_eq_true _
  have hFF : (FD == FD) = true := beq_self_eq_true _
  clear hv hok hC hokn heb hrl
  go_enter Try.func3, Try.ntmps3
  go_wp2_with (first | (go_at_call 9; (with_reducible refine (alive_calls _).mono ?_); rintro e w1 ⟨rfl, hf1⟩; have HX0a := Lib.hid (hf1.keep HX0.out (fun h => h)); have HF1 := Lib.hid (HFB.out.then0 hf1); have HV1 := Lib.hid (HVB.out.keep hf1); clear hf1) | (go_at_call 10; (with_reducible refine (HTW.out _ HV1.out).mono ?_); rintro e w2 ⟨s1, n1, c1, m1, s2, n2, c2, m2, rfl, hv1, hv2, hf2⟩; have hs2 : (w2.alloc (.cells DZ 25)).heap.size = w2.heap.size + 1 := (by simp); have hp0 : Bk ((w2.alloc (.cells DZ 25)).alloc (.cells DZ 25)) w2.heap.size DZ 25 := Bk.alloc (Bk.new w2 _) _; have hq0 : Bk ((w2.alloc (.cells DZ 25)).alloc (.cells DZ 25)) (w2.heap.size + 1) DZ 25 := (by have := Bk.new (w2.alloc (.cells DZ 25)) (.cells DZ 25); rwa [hs2] at this); have hq1 : Bk (((w2.alloc (.cells DZ 25)).alloc (.cells DZ 25)).setRow w2.heap.size (dval d s1 n1 c1 m1)) (w2.heap.size + 1) DZ 25 := ArrKit.Bk.rowOther hq0 _ (by omega); have hfa : Fr0 w2 ((w2.alloc (.cells DZ 25)).alloc (.cells DZ 25)) := Fr.alloc (Fr.alloc (Fr.refl _ _) _) _; have hfw : Fr0 w2 ((((w2.alloc (.cells DZ 25)).alloc (.cells DZ 25)).setRow w2.heap.size (dval d s1 n1 c1 m1)).setRow (w2.heap.size + 1) (dval d s2 n2 c2 m2)) := ArrKit.Fr.row (ArrKit.Fr.row hfa _ _ (.inl (Nat.le_refl _))) _ _ (.inl (by omega)); have hf4 : Fr0 w1 ((((w2.alloc (.cells DZ 25)).alloc (.cells DZ 25)).setRow w2.heap.size (dval d s1 n1 c1 m1)).setRow (w2.heap.size + 1) (dval d s2 n2 c2 m2)) := hf2.then0 hfw; have hd1 := DV.past (DV.past (hv1.keep hfa) HOK.out (Fr.row1 _ w2.heap.size (dval d s1 n1 c1 m1)) hp0 DZ_no) HOK.out (Fr.row1 _ (w2.heap.size + 1) (dval d s2 n2 c2 m2)) hq1 DZ_no; have hd2 := DV.past (DV.past (hv2.keep hfa) HOK.out (Fr.row1 _ w2.heap.size (dval d s1 n1 c1 m1)) hp0 DZ_no) HOK.out (Fr.row1 _ (w2.heap.size + 1) (dval d s2 n2 c2 m2)) hq1 DZ_no; have HP4 : Hid (DAt ((((w2.alloc (.cells DZ 25)).alloc (.cells DZ 25)).setRow w2.heap.size (dval d s1 n1 c1 m1)).setRow (w2.heap.size + 1) (dval d s2 n2 c2 m2)) w2.heap.size d s1 n1 c1 m1) := Lib.hid ⟨ArrKit.Bk.rowOther (ArrKit.Bk.row hp0 _) _ (by omega), hd1⟩; have HQ4 : Hid (DAt ((((w2.alloc (.cells DZ 25)).alloc (.cells DZ 25)).setRow w2.heap.size (dval d s1 n1 c1 m1)).setRow (w2.heap.size + 1) (dval d s2 n2 c2 m2)) (w2.heap.size + 1) d s2 n2 c2 m2) := Lib.hid ⟨ArrKit.Bk.row hq1 _, hd2⟩; have HF4 : Hid (Fr0 w ((((w2.alloc (.cells DZ 25)).alloc (.cells DZ 25)).setRow w2.heap.size (dval d s1 n1 c1 m1)).setRow (w2.heap.size + 1) (dval d s2 n2 c2 m2))) := Lib.hid (HF1.out.then0 hf4); have HV4 : Hid (DV ((((w2.alloc (.cells DZ 25)).alloc (.cells DZ 25)).setRow w2.heap.size (dval d s1 n1 c1 m1)).setRow (w2.heap.size + 1) (dval d s2 n2 c2 m2)) d sa sc ca cc) := Lib.hid (HV1.out.keep hf4); have HX04 : Hid (Bk ((((w2.alloc (.cells DZ 25)).alloc (.cells DZ 25)).setRow w2.heap.size (dval d s1 n1 c1 m1)).setRow (w2.heap.size + 1) (dval d s2 n2 c2 m2)) (w.heap.size) (dval d sa sc ca cc) 25) := Lib.hid (hf4.keep HX0a.out (fun h => h)); have HSZ : Hid (w.heap.size ≤ w2.heap.size) := Lib.hid (HF1.out.then0 hf2).size; have HLT : Hid (w1.heap.size ≤ w2.heap.size) := Lib.hid hf2.size; have HZ0 := Lib.hid hp0; have HZ1 := Lib.hid hq1; clear hv1 hv2 hf2 hs2 hp0 hq0 hq1 hfa hfw hf4 hd1 hd2) | ((with_reducible show wpList _ _ _ ({ dst := _, op := Op.store 25 _ _, type := _, pos := _, after := _, guard := _ } :: _) _ _); refine wpList_store_row rfl 25 _ _ rfl w2.heap.size (dval d s1 n1 c1 m1) rfl rfl 25 DZ HZ0.out (HID.out _ _ _ _) rfl (HDO.out _ _ _ _) ?_) | ((with_reducible show wpList _ _ _ ({ dst := _, op := Op.store 25 _ _, type := _, pos := _, after := _, guard := _ } :: _) _ _); refine wpList_store_row rfl 25 _ _ rfl (w2.heap.size + 1) (dval d s2 n2 c2 m2) rfl rfl 25 DZ HZ1.out (HID.out _ _ _ _) rfl (HDO.out _ _ _ _) ?_) | ((with_reducible show wpList _ _ _ ({ dst := _, op := Op.load 25 _, type := _, pos := _, after := _, guard := _ } :: _) _ _); refine wpList_load_row_g (by rfl) 25 _ rfl w.heap.size rfl 25 _ (0, 0) _ HX0a.out Try.underlying25 rfl (HID.out _ _ _ _) ?_) | (go_at_call 11; (with_reducible refine (HRE.out _ _ _ _ _ _ HP4.out).mono ?_); rintro e w5 ⟨rfl, hf⟩; have HZw5 := Lib.hid (Bk.new w5 (.cells ZB 29)); have hfx := ArrKit.Fr.row (Fr.alloc hf (.cells ZB 29)) w5.heap.size RB (.inl hf.size); have HPw5 := Lib.hid (DAt.keep HP4.out hfx); have HQw5 := Lib.hid (DAt.keep HQ4.out hfx); have HVw5 := Lib.hid (DV.keep HV4.out hfx); have HX0w5 := Lib.hid (Fr.keep hfx HX04.out (fun h => h)); have HFw5 := Lib.hid (Fr.then0 HF4.out hfx); have HTw5 : Hid (Bk ((w5.alloc (.cells ZB 29)).setRow w5.heap.size RB) w5.heap.size RB 29) := Lib.hid (ArrKit.Bk.row HZw5.out _); clear hfx hf) | ((with_reducible show wpList _ _ _ ({ dst := _, op := Op.store 29 _ _, type := _, pos := _, after := _, guard := _ } :: _) _ _); refine wpList_store_row rfl 29 _ _ rfl w5.heap.size RB rfl rfl 29 ZB HZw5.out HIB.out HZB.out HOB.out ?_) | (go_at_call 12; (with_reducible refine (HRR.out _ _ _ _ _ _ HQw5.out).mono ?_); rintro e w6 ⟨rfl, hf⟩; have HZw6 := Lib.hid (Bk.new w6 (.cells ZB 29)); have hfx := ArrKit.Fr.row (Fr.alloc hf (.cells ZB 29)) w6.heap.size RB (.inl hf.size); have HPw6 := Lib.hid (DAt.keep HPw5.out hfx); have HQw6 := Lib.hid (DAt.keep HQw5.out hfx); have HVw6 := Lib.hid (DV.keep HVw5.out hfx); have HX0w6 := Lib.hid (Fr.keep hfx HX0w5.out (fun h => h)); have HFw6 := Lib.hid (Fr.then0 HFw5.out hfx); have HTw6 := Lib.hid (Fr.keep hfx HTw5.out (fun h => h)); have HUw6 : Hid (Bk ((w6.alloc (.cells ZB 29)).setRow w6.heap.size RB) w6.heap.size RB 29) := Lib.hid (ArrKit.Bk.row HZw6.out _); clear hfx hf) | ((with_reducible show wpList _ _ _ ({ dst := _, op := Op.store 29 _ _, type := _, pos := _, after := _, guard := _ } :: _) _ _); refine wpList_store_row rfl 29 _ _ rfl w6.heap.size RB rfl rfl 29 ZB HZw6.out HIB.out HZB.out HOB.out ?_) | (go_at_call 13; (with_reducible refine (HNE.out _).mono ?_); rintro e w7 ⟨s7, n7, c7, m7, rfl, hvn, hf⟩; have HZw7 := Lib.hid (Bk.new w7 (.cells DZ 25)); have hfx := ArrKit.Fr.row (Fr.alloc hf (.cells DZ 25)) w7.heap.size (dval dn s7 n7 c7 m7) (.inl hf.size); have HPw7 := Lib.hid (DAt.keep HPw6.out hfx); have HQw7 := Lib.hid (DAt.keep HQw6.out hfx); have HVw7 := Lib.hid (DV.keep HVw6.out hfx); have HX0w7 := Lib.hid (Fr.keep hfx HX0w6.out (fun h => h)); have HFw7 := Lib.hid (Fr.then0 HFw6.out hfx); have HTw7 := Lib.hid (Fr.keep hfx HTw6.out (fun h => h)); have HUw7 := Lib.hid (Fr.keep hfx HUw6.out (fun h => h)); have HMw7 : Hid (Bk ((w7.alloc (.cells DZ 25)).setRow w7.heap.size (dval dn s7 n7 c7 m7)) w7.heap.size (dval dn s7 n7 c7 m7) 25) := Lib.hid (ArrKit.Bk.row HZw7.out _); have HAw7 : Hid (DV ((w7.alloc (.cells DZ 25)).setRow w7.heap.size (dval dn s7 n7 c7 m7)) dn s7 n7 c7 m7) := Lib.hid (DV.past (hvn.keep (Fr.alloc (Fr.refl _ _) _)) HOKN.out (Fr.row1 _ _ _) HZw7.out DZ_no); clear hvn; clear hfx hf) | ((with_reducible show wpList _ _ _ ({ dst := _, op := Op.store 25 _ _, type := _, pos := _, after := _, guard := _ } :: _) _ _); refine wpList_store_row rfl 25 _ _ rfl w7.heap.size (dval dn s7 n7 c7 m7) rfl rfl 25 DZ HZw7.out (HIDN.out _ _ _ _) rfl (HDON.out _ _ _ _) ?_) | (go_at_call 14; (with_reducible refine (HRN.out _).mono ?_); rintro e w8 ⟨s8, n8, c8, m8, rfl, hvn, hf⟩; have HZw8 := Lib.hid (Bk.new w8 (.cells DZ 25)); have hfx := ArrKit.Fr.row (Fr.alloc hf (.cells DZ 25)) w8.heap.size (dval dn s8 n8 c8 m8) (.inl hf.size); have HPw8 := Lib.hid (DAt.keep HPw7.out hfx); have HQw8 := Lib.hid (DAt.keep HQw7.out hfx); have HVw8 := Lib.hid (DV.keep HVw7.out hfx); have HX0w8 := Lib.hid (Fr.keep hfx HX0w7.out (fun h => h)); have HFw8 := Lib.hid (Fr.then0 HFw7.out hfx); have HTw8 := Lib.hid (Fr.keep hfx HTw7.out (fun h => h)); have HUw8 := Lib.hid (Fr.keep hfx HUw7.out (fun h => h)); have HMw8 := Lib.hid (Fr.keep hfx HMw7.out (fun h => h)); have HAw8 := Lib.hid (DV.keep HAw7.out hfx); have HNw8 : Hid (Bk ((w8.alloc (.cells DZ 25)).setRow w8.heap.size (dval dn s8 n8 c8 m8)) w8.heap.size (dval dn s8 n8 c8 m8) 25) := Lib.hid (ArrKit.Bk.row HZw8.out _); have HBw8 : Hid (DV ((w8.alloc (.cells DZ 25)).setRow w8.heap.size (dval dn s8 n8 c8 m8)) dn s8 n8 c8 m8) := Lib.hid (DV.past (hvn.keep (Fr.alloc (Fr.refl _ _) _)) HOKN.out (Fr.row1 _ _ _) HZw8.out DZ_no); clear hvn; clear hfx hf) | ((with_reducible show wpList _ _ _ ({ dst := _, op := Op.store 25 _ _, type := _, pos := _, after := _, guard := _ } :: _) _ _); refine wpList_store_row rfl 25 _ _ rfl w8.heap.size (dval dn s8 n8 c8 m8) rfl rfl 25 DZ HZw8.out (HIDN.out _ _ _ _) rfl (HDON.out _ _ _ _) ?_))
  have H9 : Hid (Held ((w8.alloc (.cells DZ 25)).setRow w8.heap.size (dval dn s8 n8 c8 m8)) [(w.heap.size, .cells (dval d sa sc ca cc) 25 (0, 0)), (w2.heap.size, .cells (dval d s1 n1 c1 m1) 25 (0, 0)), (w5.heap.size, .cells RB 29 (0, 0)), (w6.heap.size, .cells RB 29 (0, 0)), (w7.heap.size, .cells (dval dn s7 n7 c7 m7) 25 (0, 0)), (w8.heap.size, .cells (dval dn s8 n8 c8 m8) 25 (0, 0))] ((w8.alloc (.cells DZ 25)).setRow w8.heap.size (dval dn s8 n8 c8 m8))) := Lib.hid (Held.cons HX0w8.out (Held.cons HPw8.out.blk (Held.cons HTw8.out (Held.cons HUw8.out (Held.cons HMw8.out (Held.cons HNw8.out (Held.nil (Fr.refl _ _))))))))
  refine wp_region_noPanic ?_
  refine wp_region_held_drew (S := (Held ((w8.alloc (.cells DZ 25)).setRow w8.heap.size (dval dn s8 n8 c8 m8)) [(w.heap.size, .cells (dval d sa sc ca cc) 25 (0, 0)), (w2.heap.size, .cells (dval d s1 n1 c1 m1) 25 (0, 0)), (w5.heap.size, .cells RB 29 (0, 0)), (w6.heap.size, .cells RB 29 (0, 0)), (w7.heap.size, .cells (dval dn s7 n7 c7 m7) 25 (0, 0)), (w8.heap.size, .cells (dval dn s8 n8 c8 m8) 25 (0, 0))])) (by kernel_rfl) (Held.drew H9.out) (fun hHeld0 => ?_)
  change wpAnyH _ _ _ _ _ 31 #[false, false, false, false, false, false, false, false, false, false, false, false, false, false, false, false, false, false, false, false, false, false, false, false, false, false, false, false, false, false, false] _ _
  refine wpAnyH_take (i := 0) (v := .agg RB) rfl (by kernel_rfl) (by kernel_rfl) (by kernel_rfl) (fun _ _ _ h => h) (yields_row (by kernel_rfl) 29 _ rfl (w5.heap.size) rfl 29 RB (0, 0) _ (fun W h => Held.a0 (Held.tl (Held.tl h))) Try.underlying29 rfl HIB.out) hHeld0 ?_
  simp only [Act.put, List.getElem_toArray, List.getElem_cons_succ, List.getElem_cons_zero, List.setIfInBounds_toArray, List.set_cons_zero, List.set_cons_succ]
  change wpAnyH _ _ _ _ _ 30 #[true, false, false, false, false, false, false, false, false, false, false, false, false, false, false, false, false, false, false, false, false, false, false, false, false, false, false, false, false, false, false] _ _
  refine wpAnyH_take (i := 1) (v := .agg RB) rfl (by kernel_rfl) (by kernel_rfl) (by kernel_rfl) (fun _ _ _ h => h) (yields_row (by kernel_rfl) 29 _ rfl (w6.heap.size) rfl 29 RB (0, 0) _ (fun W h => Held.a0 (Held.tl (Held.tl (Held.tl h)))) Try.underlying29 rfl HIB.out) hHeld0 ?_
  simp only [Act.put, List.getElem_toArray, List.getElem_cons_succ, List.getElem_cons_zero, List.setIfInBounds_toArray, List.set_cons_zero, List.set_cons_succ]
  change wpAnyH _ _ _ _ _ 29 #[true, true, false, false, false, false, false, false, false, false, false, false, false, false, false, false, false, false, false, false, false, false, false, false, false, false, false, false, false, false, false] _ _
  refine wpAnyH_take (i := 2) (v := .bool true) rfl (by kernel_rfl) (by kernel_rfl) (by kernel_rfl) (fun _ _ _ h => h) (Or.inl ⟨by kernel_rfl, fun w hSw => run_eql_op rfl rfl rfl guard_b HEB.out w⟩) hHeld0 ?_
  simp only [Act.put, List.getElem_toArray, List.getElem_cons_succ, List.getElem_cons_zero, List.setIfInBounds_toArray, List.set_cons_zero, List.set_cons_succ]
  change wpAnyH _ _ _ _ _ 28 #[true, true, true, false, false, false, false, false, false, false, false, false, false, false, false, false, false, false, false, false, false, false, false, false, false, false, false, false, false, false, false] _ _
  refine wpAnyH_take (i := 3) (v := .bool true) rfl (by kernel_rfl) (by kernel_rfl) (by kernel_rfl) (fun _ _ _ h => h) (Or.inl ⟨by kernel_rfl, fun w hSw => by first | kernel_rfl | (go_simp; done)⟩) hHeld0 ?_
  simp only [Act.put, List.getElem_toArray, List.getElem_cons_succ, List.getElem_cons_zero, List.setIfInBounds_toArray, List.set_cons_zero, List.set_cons_succ]
  change wpAnyH _ _ _ _ _ 27 #[true, true, true, true, false, false, false, false, false, false, false, false, false, false, false, false, false, false, false, false, false, false, false, false, false, false, false, false, false, false, false] _ _
  refine wpAnyH_take (i := 4) (v := .int .i64 RE) rfl (by kernel_rfl) (by kernel_rfl) (by kernel_rfl) (fun _ _ _ h => h) (Or.inl ⟨by kernel_rfl, fun w hSw => by first | kernel_rfl | (go_simp; done)⟩) hHeld0 ?_
  simp only [Act.put, List.getElem_toArray, List.getElem_cons_succ, List.getElem_cons_zero, List.setIfInBounds_toArray, List.set_cons_zero, List.set_cons_succ]
  change wpAnyH _ _ _ _ _ 26 #[true, true, true, true, true, false, false, false, false, false, false, false, false, false, false, false, false, false, false, false, false, false, false, false, false, false, false, false, false, false, false] _ _
  refine wpAnyH_take (i := 5) (v := .int .i64 RE) rfl (by kernel_rfl) (by kernel_rfl) (by kernel_rfl) (fun _ _ _ h => h) (Or.inl ⟨by kernel_rfl, fun w hSw => by first | kernel_rfl | (go_simp; done)⟩) hHeld0 ?_
  simp only [Act.put, List.getElem_toArray, List.getElem_cons_succ, List.getElem_cons_zero, List.setIfInBounds_toArray, List.set_cons_zero, List.set_cons_succ]
  change wpAnyH _ _ _ _ _ 25 #[true, true, true, true, true, true, false, false, false, false, false, false, false, false, false, false, false, false, false, false, false, false, false, false, false, false, false, false, false, false, false] _ _
  refine wpAnyH_take (i := 6) (v := .bool true) rfl (by kernel_rfl) (by kernel_rfl) (by kernel_rfl) (fun _ _ _ h => h) (Or.inl ⟨by kernel_rfl, fun w hSw => by go_simp <;> (first | exact beq_iff_eq.1 (by assumption) | exact beq_eq_false_iff_ne.1 (by assumption) | omega)⟩) hHeld0 ?_
  simp only [Act.put, List.getElem_toArray, List.getElem_cons_succ, List.getElem_cons_zero, List.setIfInBounds_toArray, List.set_cons_zero, List.set_cons_succ]
  change wpAnyH _ _ _ _ _ 24 #[true, true, true, true, true, true, true, false, false, false, false, false, false, false, false, false, false, false, false, false, false, false, false, false, false, false, false, false, false, false, false] _ _
  refine wpAnyH_take (i := 7) (v := .bool true) rfl (by kernel_rfl) (by kernel_rfl) (by kernel_rfl) (fun _ _ _ h => h) (Or.inl ⟨by kernel_rfl, fun w hSw => by first | kernel_rfl | (go_simp; done)⟩) hHeld0 ?_
  simp only [Act.put, List.getElem_toArray, List.getElem_cons_succ, List.getElem_cons_zero, List.setIfInBounds_toArray, List.set_cons_zero, List.set_cons_succ]
  change wpAnyH _ _ _ _ _ 23 #[true, true, true, true, true, true, true, true, false, false, false, false, false, false, false, false, false, false, false, false, false, false, false, false, false, false, false, false, false, false, false] _ _
  refine wpAnyH_take (i := 8) (v := .bool true) rfl (by kernel_rfl) (by kernel_rfl) (by kernel_rfl) (fun _ _ _ h => h) (Or.inl ⟨by kernel_rfl, fun w hSw => by first | kernel_rfl | (go_simp; done)⟩) hHeld0 ?_
  simp only [Act.put, List.getElem_toArray, List.getElem_cons_succ, List.getElem_cons_zero, List.setIfInBounds_toArray, List.set_cons_zero, List.set_cons_succ]
  change wpAnyH _ _ _ _ _ 22 #[true, true, true, true, true, true, true, true, true, false, false, false, false, false, false, false, false, false, false, false, false, false, false, false, false, false, false, false, false, false, false] _ _
  refine wpAnyH_take (i := 9) (v := .agg (dval dn s7 n7 c7 m7)) rfl (by kernel_rfl) (by kernel_rfl) (by kernel_rfl) (fun _ _ _ h => h) (yields_row (by kernel_rfl) 25 _ rfl (w7.heap.size) rfl 25 (dval dn s7 n7 c7 m7) (0, 0) _ (fun W h => Held.a0 (Held.tl (Held.tl (Held.tl (Held.tl h))))) Try.underlying25 rfl (HIDN.out _ _ _ _)) hHeld0 ?_
  simp only [Act.put, List.getElem_toArray, List.getElem_cons_succ, List.getElem_cons_zero, List.setIfInBounds_toArray, List.set_cons_zero, List.set_cons_succ]
  change wpAnyH _ _ _ _ _ 21 #[true, true, true, true, true, true, true, true, true, true, false, false, false, false, false, false, false, false, false, false, false, false, false, false, false, false, false, false, false, false, false] _ _
  refine wpAnyH_take (i := 10) (v := .agg (dval dn s8 n8 c8 m8)) rfl (by kernel_rfl) (by kernel_rfl) (by kernel_rfl) (fun _ _ _ h => h) (yields_row (by kernel_rfl) 25 _ rfl (w8.heap.size) rfl 25 (dval dn s8 n8 c8 m8) (0, 0) _ (fun W h => Held.a0 (Held.tl (Held.tl (Held.tl (Held.tl (Held.tl h)))))) Try.underlying25 rfl (HIDN.out _ _ _ _)) hHeld0 ?_
  simp only [Act.put, List.getElem_toArray, List.getElem_cons_succ, List.getElem_cons_zero, List.setIfInBounds_toArray, List.set_cons_zero, List.set_cons_succ]
  change wpAnyH _ _ _ _ _ 20 #[true, true, true, true, true, true, true, true, true, true, true, false, false, false, false, false, false, false, false, false, false, false, false, false, false, false, false, false, false, false, false] _ _
  refine wpAnyH_ready (rs := [11]) (by kernel_rfl) (by simp) ?_
  refine AllReadyH.cons rfl (fun K hK => ?_) AllReadyH.nil
  simp only [List.getElem_toArray, List.getElem_cons_succ, List.getElem_cons_zero]
  refine (if_pos (by kernel_rfl)).mpr ?_
  go_wp2_with fail
  refine (HSN.out _ _ _ _ _ _ _ _ _ (HAw8.out.keep hHeld0.2) (HBw8.out.keep hHeld0.2)).mono ?_
  rintro e wx0 ⟨rfl, hfx0⟩
  dsimp only
  refine hK.out _ _ (Held.keep hfx0 hHeld0) (fun hHeld1 => ?_)
  clear hK K hHeld0
  change wpAnyH _ _ _ _ _ 19 #[true, true, true, true, true, true, true, true, true, true, true, true, false, false, false, false, false, false, false, false, false, false, false, false, false, false, false, false, false, false, false] _ _
  refine wpAnyH_take (i := 12) (v := .bool true) rfl (by kernel_rfl) (by kernel_rfl) (by kernel_rfl) (fun _ _ _ h => h) (Or.inl ⟨by kernel_rfl, fun w hSw => by first | kernel_rfl | (go_simp; done)⟩) hHeld1 ?_
  simp only [Act.put, List.getElem_toArray, List.getElem_cons_succ, List.getElem_cons_zero, List.setIfInBounds_toArray, List.set_cons_zero, List.set_cons_succ]
  change wpAnyH _ _ _ _ _ 18 #[true, true, true, true, true, true, true, true, true, true, true, true, true, false, false, false, false, false, false, false, false, false, false, false, false, false, false, false, false, false, false] _ _
  refine wpAnyH_take (i := 13) (v := .bool true) rfl (by kernel_rfl) (by kernel_rfl) (by kernel_rfl) (fun _ _ _ h => h) (Or.inl ⟨by kernel_rfl, fun w hSw => by first | kernel_rfl | (go_simp; done)⟩) hHeld1 ?_
  simp only [Act.put, List.getElem_toArray, List.getElem_cons_succ, List.getElem_cons_zero, List.setIfInBounds_toArray, List.set_cons_zero, List.set_cons_succ]
  change wpAnyH _ _ _ _ _ 17 #[true, true, true, true, true, true, true, true, true, true, true, true, true, true, false, false, false, false, false, false, false, false, false, false, false, false, false, false, false, false, false] _ _
  refine wpAnyH_take (i := 14) (v := .int .i64 NE) rfl (by kernel_rfl) (by kernel_rfl) (by kernel_rfl) (fun _ _ _ h => h) (Or.inl ⟨by kernel_rfl, fun w hSw => by first | kernel_rfl | (go_simp; done)⟩) hHeld1 ?_
  simp only [Act.put, List.getElem_toArray, List.getElem_cons_succ, List.getElem_cons_zero, List.setIfInBounds_toArray, List.set_cons_zero, List.set_cons_succ]
  change wpAnyH _ _ _ _ _ 16 #[true, true, true, true, true, true, true, true, true, true, true, true, true, true, true, false, false, false, false, false, false, false, false, false, false, false, false, false, false, false, false] _ _
  refine wpAnyH_take (i := 15) (v := .int .i64 NE) rfl (by kernel_rfl) (by kernel_rfl) (by kernel_rfl) (fun _ _ _ h => h) (Or.inl ⟨by kernel_rfl, fun w hSw => by first | kernel_rfl | (go_simp; done)⟩) hHeld1 ?_
  simp only [Act.put, List.getElem_toArray, List.getElem_cons_succ, List.getElem_cons_zero, List.setIfInBounds_toArray, List.set_cons_zero, List.set_cons_succ]
  change wpAnyH _ _ _ _ _ 15 #[true, true, true, true, true, true, true, true, true, true, true, true, true, true, true, true, false, false, false, false, false, false, false, false, false, false, false, false, false, false, false] _ _
  refine wpAnyH_take (i := 16) (v := .bool true) rfl (by kernel_rfl) (by kernel_rfl) (by kernel_rfl) (fun _ _ _ h => h) (Or.inl ⟨by kernel_rfl, fun w hSw => by go_simp <;> (first | exact beq_iff_eq.1 (by assumption) | exact beq_eq_false_iff_ne.1 (by assumption) | omega)⟩) hHeld1 ?_
  simp only [Act.put, List.getElem_toArray, List.getElem_cons_succ, List.getElem_cons_zero, List.setIfInBounds_toArray, List.set_cons_zero, List.set_cons_succ]
  change wpAnyH _ _ _ _ _ 14 #[true, true, true, true, true, true, true, true, true, true, true, true, true, true, true, true, true, false, false, false, false, false, false, false, false, false, false, false, false, false, false] _ _
  refine wpAnyH_take (i := 17) (v := .bool true) rfl (by kernel_rfl) (by kernel_rfl) (by kernel_rfl) (fun _ _ _ h => h) (Or.inl ⟨by kernel_rfl, fun w hSw => by first | kernel_rfl | (go_simp; done)⟩) hHeld1 ?_
  simp only [Act.put, List.getElem_toArray, List.getElem_cons_succ, List.getElem_cons_zero, List.setIfInBounds_toArray, List.set_cons_zero, List.set_cons_succ]
  change wpAnyH _ _ _ _ _ 13 #[true, true, true, true, true, true, true, true, true, true, true, true, true, true, true, true, true, true, false, false, false, false, false, false, false, false, false, false, false, false, false] _ _
  refine wpAnyH_take (i := 18) (v := .bool true) rfl (by kernel_rfl) (by kernel_rfl) (by kernel_rfl) (fun _ _ _ h => h) (Or.inl ⟨by kernel_rfl, fun w hSw => by first | kernel_rfl | (go_simp; done)⟩) hHeld1 ?_
  simp only [Act.put, List.getElem_toArray, List.getElem_cons_succ, List.getElem_cons_zero, List.setIfInBounds_toArray, List.set_cons_zero, List.set_cons_succ]
  change wpAnyH _ _ _ _ _ 12 #[true, true, true, true, true, true, true, true, true, true, true, true, true, true, true, true, true, true, true, false, false, false, false, false, false, false, false, false, false, false, false] _ _
  refine wpAnyH_take (i := 19) (v := .agg (dval d sa sc ca cc)) rfl (by kernel_rfl) (by kernel_rfl) (by kernel_rfl) (fun _ _ _ h => h) (yields_row (by kernel_rfl) 25 _ rfl (w.heap.size) rfl 25 (dval d sa sc ca cc) (0, 0) _ (fun W h => Held.a0 h) Try.underlying25 rfl (HID.out _ _ _ _)) hHeld1 ?_
  simp only [Act.put, List.getElem_toArray, List.getElem_cons_succ, List.getElem_cons_zero, List.setIfInBounds_toArray, List.set_cons_zero, List.set_cons_succ]
  change wpAnyH _ _ _ _ _ 11 #[true, true, true, true, true, true, true, true, true, true, true, true, true, true, true, true, true, true, true, true, false, false, false, false, false, false, false, false, false, false, false] _ _
  refine wpAnyH_take (i := 21) (v := .agg (dval d sa sc ca cc)) rfl (by kernel_rfl) (by kernel_rfl) (by kernel_rfl) (fun _ _ _ h => h) (yields_row (by kernel_rfl) 25 _ rfl (w.heap.size) rfl 25 (dval d sa sc ca cc) (0, 0) _ (fun W h => Held.a0 h) Try.underlying25 rfl (HID.out _ _ _ _)) hHeld1 ?_
  simp only [Act.put, List.getElem_toArray, List.getElem_cons_succ, List.getElem_cons_zero, List.setIfInBounds_toArray, List.set_cons_zero, List.set_cons_succ]
  change wpAnyH _ _ _ _ _ 10 #[true, true, true, true, true, true, true, true, true, true, true, true, true, true, true, true, true, true, true, true, false, true, false, false, false, false, false, false, false, false, false] _ _
  refine wpAnyH_ready (rs := [20]) (by kernel_rfl) (by simp) ?_
  refine AllReadyH.cons rfl (fun K hK => ?_) AllReadyH.nil
  simp only [List.getElem_toArray, List.getElem_cons_succ, List.getElem_cons_zero]
  refine (if_pos (by kernel_rfl)).mpr ?_
  go_wp2_with fail
  refine (HFO.out _ (HVw8.out.keep hHeld1.2)).mono ?_
  rintro e wx1 ⟨rfl, hfx1⟩
  dsimp only
  refine hK.out _ _ (Held.keep hfx1 hHeld1) (fun hHeld2 => ?_)
  clear hK K hHeld1
  change wpAnyH _ _ _ _ _ 9 #[true, true, true, true, true, true, true, true, true, true, true, true, true, true, true, true, true, true, true, true, true, true, false, false, false, false, false, false, false, false, false] _ _
  refine wpAnyH_ready (rs := [22]) (by kernel_rfl) (by simp) ?_
  refine AllReadyH.cons rfl (fun K hK => ?_) AllReadyH.nil
  simp only [List.getElem_toArray, List.getElem_cons_succ, List.getElem_cons_zero]
  refine (if_pos (by kernel_rfl)).mpr ?_
  go_wp2_with fail
  refine (HRF.out _ (HVw8.out.keep hHeld2.2)).mono ?_
  rintro e wx2 ⟨rfl, hfx2⟩
  dsimp only
  refine hK.out _ _ (Held.keep hfx2 hHeld2) (fun hHeld3 => ?_)
  clear hK K hHeld2
  change wpAnyH _ _ _ _ _ 8 #[true, true, true, true, true, true, true, true, true, true, true, true, true, true, true, true, true, true, true, true, true, true, true, false, false, false, false, false, false, false, false] _ _
  refine wpAnyH_take (i := 23) (v := .bool true) rfl (by kernel_rfl) (by kernel_rfl) (by kernel_rfl) (fun _ _ _ h => h) (Or.inl ⟨by kernel_rfl, fun w hSw => by go_simp <;> (first | exact beq_iff_eq.1 (by assumption) | exact beq_eq_false_iff_ne.1 (by assumption) | omega)⟩) hHeld3 ?_
  simp only [Act.put, List.getElem_toArray, List.getElem_cons_succ, List.getElem_cons_zero, List.setIfInBounds_toArray, List.set_cons_zero, List.set_cons_succ]
  change wpAnyH _ _ _ _ _ 7 #[true, true, true, true, true, true, true, true, true, true, true, true, true, true, true, true, true, true, true, true, true, true, true, true, false, false, false, false, false, false, false] _ _
  refine wpAnyH_take (i := 24) (v := .bool true) rfl (by kernel_rfl) (by kernel_rfl) (by kernel_rfl) (fun _ _ _ h => h) (Or.inl ⟨by kernel_rfl, fun w hSw => by first | kernel_rfl | (go_simp; done)⟩) hHeld3 ?_
  simp only [Act.put, List.getElem_toArray, List.getElem_cons_succ, List.getElem_cons_zero, List.setIfInBounds_toArray, List.set_cons_zero, List.set_cons_succ]
  change wpAnyH _ _ _ _ _ 6 #[true, true, true, true, true, true, true, true, true, true, true, true, true, true, true, true, true, true, true, true, true, true, true, true, true, false, false, false, false, false, false] _ _
  refine wpAnyH_take (i := 25) (v := .bool true) rfl (by kernel_rfl) (by kernel_rfl) (by kernel_rfl) (fun _ _ _ h => h) (Or.inl ⟨by kernel_rfl, fun w hSw => by first | kernel_rfl | (go_simp; done)⟩) hHeld3 ?_
  simp only [Act.put, List.getElem_toArray, List.getElem_cons_succ, List.getElem_cons_zero, List.setIfInBounds_toArray, List.set_cons_zero, List.set_cons_succ]
  change wpAnyH _ _ _ _ _ 5 #[true, true, true, true, true, true, true, true, true, true, true, true, true, true, true, true, true, true, true, true, true, true, true, true, true, true, false, false, false, false, false] _ _
  refine wpAnyH_take (i := 26) (v := .agg (dval d s1 n1 c1 m1)) rfl (by kernel_rfl) (by kernel_rfl) (by kernel_rfl) (fun _ _ _ h => h) (yields_row (by kernel_rfl) 25 _ rfl (w2.heap.size) rfl 25 (dval d s1 n1 c1 m1) (0, 0) _ (fun W h => Held.a0 (Held.tl h)) Try.underlying25 rfl (HID.out _ _ _ _)) hHeld3 ?_
  simp only [Act.put, List.getElem_toArray, List.getElem_cons_succ, List.getElem_cons_zero, List.setIfInBounds_toArray, List.set_cons_zero, List.set_cons_succ]
  change wpAnyH _ _ _ _ _ 4 #[true, true, true, true, true, true, true, true, true, true, true, true, true, true, true, true, true, true, true, true, true, true, true, true, true, true, true, false, false, false, false] _ _
  refine wpAnyH_take (i := 27) (v := .agg (dval d sa sc ca cc)) rfl (by kernel_rfl) (by kernel_rfl) (by kernel_rfl) (fun _ _ _ h => h) (yields_row (by kernel_rfl) 25 _ rfl (w.heap.size) rfl 25 (dval d sa sc ca cc) (0, 0) _ (fun W h => Held.a0 h) Try.underlying25 rfl (HID.out _ _ _ _)) hHeld3 ?_
  simp only [Act.put, List.getElem_toArray, List.getElem_cons_succ, List.getElem_cons_zero, List.setIfInBounds_toArray, List.set_cons_zero, List.set_cons_succ]
  change wpAnyH _ _ _ _ _ 3 #[true, true, true, true, true, true, true, true, true, true, true, true, true, true, true, true, true, true, true, true, true, true, true, true, true, true, true, true, false, false, false] _ _
  refine wpAnyH_ready (rs := [28]) (by kernel_rfl) (by simp) ?_
  refine AllReadyH.cons rfl (fun K hK => ?_) AllReadyH.nil
  simp only [List.getElem_toArray, List.getElem_cons_succ, List.getElem_cons_zero]
  refine (if_pos (by kernel_rfl)).mpr ?_
  go_wp2_with fail
  refine (HSD.out _ _ _ _ _ _ _ _ _ (HPw8.out.v.keep hHeld3.2) (HVw8.out.keep hHeld3.2)).mono ?_
  rintro e wx3 ⟨rfl, hfx3⟩
  dsimp only
  refine hK.out _ _ (Held.keep hfx3 hHeld3) (fun hHeld4 => ?_)
  clear hK K hHeld3
  change wpAnyH _ _ _ _ _ 2 #[true, true, true, true, true, true, true, true, true, true, true, true, true, true, true, true, true, true, true, true, true, true, true, true, true, true, true, true, true, false, false] _ _
  refine wpAnyH_take (i := 29) (v := .bool true) rfl (by kernel_rfl) (by kernel_rfl) (by kernel_rfl) (fun _ _ _ h => h) (Or.inl ⟨by kernel_rfl, fun w hSw => by first | kernel_rfl | (go_simp; done)⟩) hHeld4 ?_
  simp only [Act.put, List.getElem_toArray, List.getElem_cons_succ, List.getElem_cons_zero, List.setIfInBounds_toArray, List.set_cons_zero, List.set_cons_succ]
  change wpAnyH _ _ _ _ _ 1 #[true, true, true, true, true, true, true, true, true, true, true, true, true, true, true, true, true, true, true, true, true, true, true, true, true, true, true, true, true, true, false] _ _
  refine wpAnyH_take (i := 30) (v := .bool true) rfl (by kernel_rfl) (by kernel_rfl) (by kernel_rfl) (fun _ _ _ h => h) (Or.inl ⟨by kernel_rfl, fun w hSw => by first | kernel_rfl | (go_simp; done)⟩) hHeld4 ?_
  simp only [Act.put, List.getElem_toArray, List.getElem_cons_succ, List.getElem_cons_zero, List.setIfInBounds_toArray, List.set_cons_zero, List.set_cons_succ]
  change wpAnyH _ _ _ _ _ 0 #[true, true, true, true, true, true, true, true, true, true, true, true, true, true, true, true, true, true, true, true, true, true, true, true, true, true, true, true, true, true, true] _ _
  refine wpAnyH_done (by kernel_rfl) ?_ _
  refine NoPanic.normal ?_
  have HFIN := Lib.hid (Held.f hHeld4)
  have HEND := Lib.hid hHeld4
  clear hHeld4
  go_wp2_with fail
  go_ret
  exact ⟨rfl, HFw8.out.then0 HFIN.out⟩

end Go.Proofs.Ytboakipfhidkmaa.DiskReadsLaw
