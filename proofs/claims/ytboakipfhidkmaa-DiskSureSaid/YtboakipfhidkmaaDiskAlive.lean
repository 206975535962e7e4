/- The fixed fact of the disk's laws: the walk of alive. -/
import Derived.Test.YtboakipfhidkmaaDiskRead
import Derived.Test.YtboakipfhidkmaaDiskWrite
import Derived.Test.YtboakipfhidkmaaDiskFlush
set_option linter.unusedVariables false
set_option linter.unusedSimpArgs false
namespace Go.Proofs.Ytboakipfhidkmaa.DiskAlive
open Go Go.RowKit Go.Proofs.Ytboakipfhidkmaa.K Go.Proofs.Ytboakipfhidkmaa.EqKit Go.Proofs.Ytboakipfhidkmaa.ArrKit Go.Proofs.Ytboakipfhidkmaa.HeldKit Go.Proofs.Ytboakipfhidkmaa.GKit Go.Proofs.Ytboakipfhidkmaa.GRow Go.Proofs.Ytboakipfhidkmaa.DiskKit Go.Proofs.Ytboakipfhidkmaa.DiskAsk Go.Proofs.Ytboakipfhidkmaa.DiskForm Go.Proofs.Ytboakipfhidkmaa.DiskAct Go.Proofs.Ytboakipfhidkmaa.DiskNew Go.Proofs.Ytboakipfhidkmaa.DiskCopy Go.Proofs.Ytboakipfhidkmaa.DiskLay Go.Proofs.Ytboakipfhidkmaa.DiskFlush Go.Proofs.Ytboakipfhidkmaa.DiskRRead Go.Proofs.Ytboakipfhidkmaa.DiskRead Go.Proofs.Ytboakipfhidkmaa.DiskWrite Go.Proofs.Ytboakipfhidkmaa.GApp

def b5 : List UInt8 := 5 :: List.replicate 127 0
def dA : Dk := newD 2
def dB : Dk := writeD dA 1 b5
def dC : Dk := crashD dB [true]
theorem dA_eq : dA = ⟨[Zs, Zs], [], -1, false⟩ := rfl
theorem dB_eq : dB = ⟨[Zs, Zs], [⟨1, b5⟩], -1, false⟩ := rfl
theorem dC_eq : dC = ⟨[Zs, ⟨b5, false, false⟩], [], -1, false⟩ := rfl
theorem wE : writeE dA 1 = 0 := rfl
theorem cE : crashE dB = 0 := rfl
theorem rE : readX dC 1 = (b5, 0) := rfl
theorem fE : formedB dC = true := rfl
theorem b5_len : b5.length = 128 := by simp [b5]
theorem dA_ok : dA.ok := newD_ok 2
theorem dB_ok : dB.ok := by
  rw [dB_eq]
  refine ⟨fun x hx => ?_, fun x hx => ?_, (show (Lit.int .i64 (-1)).wf = true by decide)⟩
  · simp only [List.mem_cons, List.not_mem_nil, or_false, or_self] at hx; subst hx; exact Zs_ok
  · simp only [List.mem_cons, List.not_mem_nil, or_false] at hx; subst hx; exact ⟨b5_len, (show (Lit.int .i64 1).wf = true by decide)⟩
theorem dC_ok : dC.ok := by
  rw [dC_eq]
  refine ⟨fun x hx => ?_, fun x hx => by simp at hx, (show (Lit.int .i64 (-1)).wf = true by decide)⟩
  simp only [List.mem_cons, List.not_mem_nil, or_false] at hx
  rcases hx with rfl | rfl
  · exact Zs_ok
  · exact b5_len
theorem built_b5 : Try.prog.built 29 [(0, .int .u8 5)] = some (b5.map B).toArray := by kernel_rfl
set_option maxHeartbeats 2000000 in
set_option maxRecDepth 100000 in
theorem alive_calls (w : World) : Calls Try.prog 9 #[] w fun e w' => e = .returned (.bool true) ∧ Fr0 w w' := by
  have hz : ∀ W, (zeroValue 25).run Try.prog W = .ok (.agg DZ) W := by intro W; kernel_rfl
  have hzb : ∀ W, (zeroValue 29).run Try.prog W = .ok (.agg ZB) W := by intro W; kernel_rfl
  have HN := Lib.hid (new_calls 2 w)
  rw [show newE 2 = 0 from rfl, show newD 2 = dA from rfl] at HN
  have HWR : Hid (∀ p W sa sc ca cc, DAt W p dA sa sc ca cc → Calls Try.prog 18 #[.pointer (some ⟨p, 0, none⟩), .int .i64 1, .agg (b5.map B).toArray] W fun e w' => e = .returned (.int .i64 0) ∧ Now W w' p dB) := Lib.hid (fun p W sa sc ca cc h => by
    have := write_calls p 1 b5 dA sa sc ca cc W dA_ok h b5_len (by rw [dA_eq]; decide) (by decide)
    rwa [wE] at this)
  have HCR : Hid (∀ p W sa sc ca cc kp, DAt W p dB sa sc ca cc → Bk W kp #[.bool true] 4 → kp ≠ p → Calls Try.prog 20 #[.pointer (some ⟨p, 0, none⟩), .slice (some ⟨kp, 0, none⟩) 1 1] W fun e w' => e = .returned (.int .i64 0) ∧ Now W w' p dC) := Lib.hid (fun p W sa sc ca cc kp h hk hne => by
    have := crash_calls p (some ⟨kp, 0, none⟩) 1 [true] dB sa sc ca cc W dB_ok h (by decide) (by omega) (RdG.of (fun i hi j u hj => by
      simp only [List.length_cons, List.length_nil] at hi
      obtain rfl : i = 0 := by omega
      have hj0 : j = 0 := by
        have := (List.getElem?_eq_some_iff.1 hj).1
        simp only [List.length_cons, List.length_nil] at this
        omega
      subst hj0
      rw [Bk.cell hk]
      exact hj)) (fun a e _ => by cases e; exact hne)
    rwa [cE] at this)
  have HRD : Hid (∀ p W sa sc ca cc, DAt W p dC sa sc ca cc → Calls Try.prog 11 #[.pointer (some ⟨p, 0, none⟩), .int .i64 1] W fun e w' => e = .returned (.tuple #[.agg (b5.map B).toArray, .int .i64 0]) ∧ Fr0 W w') := Lib.hid (fun p W sa sc ca cc h => by
    have := read_calls p 1 dC sa sc ca cc W dC_ok h
    rw [rE] at this
    exact this)
  have HFM : Hid (∀ W sa sc ca cc, DV W dC sa sc ca cc → Calls Try.prog 16 #[.agg (dval dC sa sc ca cc)] W fun e w' => e = .returned (.bool true) ∧ Fr0 W w') := Lib.hid (fun W sa sc ca cc h => by
    have := formed_calls dC sa sc ca cc W dC_ok h
    rwa [fE] at this)
  have HIB : Hid ((Try.prog.info? 29).map (·.size) = some (b5.map B).toArray.size) := Lib.hid (by rw [info_b, List.size_toArray, List.length_map, b5_len])
  have HZB : Hid (ZB.size = (b5.map B).toArray.size) := Lib.hid ((show ZB.size = 128 by simp [ZB, Z128]).trans (by rw [List.size_toArray, List.length_map, b5_len]))
  have HOB : Hid ((b5.map B).toArray.all (·.oneCell') = true) := Lib.hid (by simp [B, Value.oneCell'])
  have HB5 := Lib.hid built_b5
  have HB0 : Hid ((b5.map B).toArray[0]? = some (.int .u8 5)) := Lib.hid rfl
  generalize (b5.map B).toArray = Y at *
  go_enter Try.func9, Try.ntmps9
  go_wp2_with (first | (go_at_call 13; (with_reducible refine (HN.out).mono ?_); rintro e w1 ⟨sa, sc, ca, cc, rfl, hv, hf⟩; have HV1 := Lib.hid hv; have HF1 := Lib.hid hf; have HD0 := Lib.hid (Bk.new w1 (.cells DZ 25)); have HD1 : Hid (Bk ((w1.alloc (.cells DZ 25)).setRow w1.heap.size (dval dA sa sc ca cc)) w1.heap.size (dval dA sa sc ca cc) 25) := Lib.hid (ArrKit.Bk.row HD0.out _); have HF2 : Hid (Fr0 w ((w1.alloc (.cells DZ 25)).setRow w1.heap.size (dval dA sa sc ca cc))) := Lib.hid (ArrKit.Fr.row (Fr.alloc hf _) _ _ (.inl hf.size)); have HV2 : Hid (DV ((w1.alloc (.cells DZ 25)).setRow w1.heap.size (dval dA sa sc ca cc)) dA sa sc ca cc) := Lib.hid (DV.past (hv.keep (Fr.alloc (Fr.refl _ _) _)) dA_ok (Fr.row1 _ _ _) HD0.out (dc_no _ _ _ _ (by simp [B]) (by simp [B]))); have HDO : Hid ((dval dA sa sc ca cc).all (·.oneCell') = true) := Lib.hid (dval_one _ _ _ _ _); clear hv hf) | ((with_reducible show wpList _ _ _ ({ dst := _, op := Op.store 25 _ _, type := _, pos := _, after := _, guard := _ } :: _) _ _); refine wpList_store_row rfl 25 _ _ rfl w1.heap.size (dval dA sa sc ca cc) rfl rfl 25 DZ HD0.out info_d rfl HDO.out ?_) | ((with_reducible show wpList _ _ _ ({ dst := _, op := Op.build 29 _, type := _, pos := _, after := _, guard := _ } :: _) _ _); refine build_ev rfl 29 _ rfl [(0, .int .u8 5)] (by simp [Act.eval, Act.put]) Y HB5.out ?_) | (go_at_call 18; (with_reducible refine (HWR.out _ _ sa sc ca cc ⟨HD1.out, HV2.out⟩).mono ?_); rintro e w3 ⟨rfl, ⟨⟨s3, n3, c3, m3, h3⟩, f3⟩⟩; have HD3 := Lib.hid h3; have HF3 : Hid (Fr0 w w3) := Lib.hid (Fr.newG HF2.out f3 HF1.out.size); have hp3 : w1.heap.size < w3.heap.size := Bk.lt h3.blk; have HK3 := Lib.hid (Bk.new w3 (.cells #[.bool true] 4)); clear h3 f3) | (go_at_call 20; (with_reducible refine (HCR.out _ _ s3 n3 c3 m3 w3.heap.size (DAt.keep HD3.out (Fr.alloc (Fr.refl _ _) _)) HK3.out (by omega)).mono ?_); rintro e w4 ⟨rfl, ⟨⟨s4, n4, c4, m4, h4⟩, f4⟩⟩; have HD4 := Lib.hid h4; have HF4 : Hid (Fr0 w w4) := Lib.hid (Fr.newG (Fr.alloc HF3.out _) f4 HF1.out.size); clear h4 f4) | (go_at_call 11; (with_reducible refine (HRD.out _ _ s4 n4 c4 m4 HD4.out).mono ?_); rintro e w5 ⟨rfl, hf5⟩; have HT0 := Lib.hid (Bk.new w5 (.cells ZB 29)); have HT1 : Hid (Bk ((w5.alloc (.cells ZB 29)).setRow w5.heap.size Y) w5.heap.size Y 29) := Lib.hid (ArrKit.Bk.row HT0.out _); have HF5 : Hid (Fr0 w ((w5.alloc (.cells ZB 29)).setRow w5.heap.size Y)) := Lib.hid (ArrKit.Fr.row (Fr.alloc (HF4.out.then0 hf5) _) _ _ (.inl (HF4.out.then0 hf5).size)); have HD5 : Hid (DAt ((w5.alloc (.cells ZB 29)).setRow w5.heap.size Y) w1.heap.size dC s4 n4 c4 m4) := Lib.hid (HD4.out.keep (ArrKit.Fr.row (Fr.alloc hf5 _) _ _ (.inl hf5.size))); have q5 : ((w5.alloc (.cells ZB 29)).setRow w5.heap.size Y).cell? ⟨w5.heap.size, 0, none⟩ = some (.int .u8 5) := (Bk.cell HT1.out 0).trans HB0.out; clear hf5) | ((with_reducible show wpList _ _ _ ({ dst := _, op := Op.store 29 _ _, type := _, pos := _, after := _, guard := _ } :: _) _ _); refine wpList_store_row rfl 29 _ _ rfl w5.heap.size Y rfl rfl 29 ZB HT0.out HIB.out HZB.out HOB.out ?_) | ((with_reducible show wpList _ _ _ ({ dst := _, op := Op.load 25 _, type := _, pos := _, after := _, guard := _ } :: _) _ _); refine wpList_load_row_g (by rfl) 25 _ rfl w1.heap.size rfl 25 _ (0, 0) _ HD5.out.blk Try.underlying25 rfl info_d ?_) | (go_at_call 16; (with_reducible refine (HFM.out _ s4 n4 c4 m4 HD5.out.v).mono ?_); rintro e w6 ⟨rfl, hf6⟩; have HF6 := Lib.hid (HF5.out.then0 hf6); clear hf6))
  go_ret
  exact ⟨rfl, HF6.out⟩

end Go.Proofs.Ytboakipfhidkmaa.DiskAlive
