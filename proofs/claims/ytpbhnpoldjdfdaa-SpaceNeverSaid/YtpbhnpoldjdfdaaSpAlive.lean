/- The law's fixed fact. -/
import Derived.Test.YtpbhnpoldjdfdaaSpDrop
set_option linter.unusedVariables false
set_option linter.unusedSimpArgs false
namespace Go.Proofs.Ytpbhnpoldjdfdaa.SpAlive
open Go Go.RowKit Go.Proofs.Ytpbhnpoldjdfdaa.K Go.Proofs.Ytpbhnpoldjdfdaa.EqKit Go.Proofs.Ytpbhnpoldjdfdaa.ArrKit Go.Proofs.Ytpbhnpoldjdfdaa.HeldKit Go.Proofs.Ytpbhnpoldjdfdaa.GKit Go.Proofs.Ytpbhnpoldjdfdaa.GRow Go.Proofs.Ytpbhnpoldjdfdaa.SpKit Go.Proofs.Ytpbhnpoldjdfdaa.SpAsk Go.Proofs.Ytpbhnpoldjdfdaa.SpFind Go.Proofs.Ytpbhnpoldjdfdaa.SpNew Go.Proofs.Ytpbhnpoldjdfdaa.SpBecome Go.Proofs.Ytpbhnpoldjdfdaa.SpIdx Go.Proofs.Ytpbhnpoldjdfdaa.SpTake

def spA : Sp := S4 sp3 [2, 0, 0, 2, 0, 0]
def spB : Sp := S4 sp3 [2, 2, 0, 2, 0, 0]
theorem spA_ok : spA.ok := ⟨by decide, by decide, by decide, by decide, by decide, by decide⟩
theorem spB_ok : spB.ok := ⟨by decide, by decide, by decide, by decide, by decide, by decide⟩
set_option maxHeartbeats 2000000 in
set_option maxRecDepth 100000 in
theorem alive_calls (w : World) : Calls Try.prog 4 #[] w fun e w' => e = .returned (.bool true) ∧ Fr0 w w' := by
  have hz : ∀ W, (zeroValue 26).run Try.prog W = .ok (.agg SZ) W := by intro W; kernel_rfl
  have HN := Lib.hid (new3_calls w)
  have HTA : Hid (∀ p W g, SAt W p sp3 g 0 6 → Calls Try.prog 6 #[.pointer (some ⟨p, 0, none⟩), .int .i64 2] W fun e w' => e = .returned (.tuple #[.int .i64 4, .int .i64 10, .int .i64 0]) ∧ Now W w' p spA) := Lib.hid (fun p W g h => take_two p sp3 g 0 6 W sp3_ok h 0 3 (by decide) (by decide))
  have HTB : Hid (∀ p W g c, SAt W p spA g 0 c → Calls Try.prog 6 #[.pointer (some ⟨p, 0, none⟩), .int .i64 1] W fun e w' => e = .returned (.tuple #[.int .i64 5, .int .i64 (-1), .int .i64 0]) ∧ Now W w' p spB) := Lib.hid (fun p W g c h => take_one0 p spA g 0 c W spA_ok h 1 (by decide))
  have HUS : Hid (∀ W p g c, SAt W p spB g 0 c → Calls Try.prog 10 #[.agg (sval spB g 0 c)] W fun e w' => e = .returned (.int .i64 3) ∧ Fr0 W w') := Lib.hid (fun W p g c h => Used_calls spB g 0 c W spB_ok h.rd)
  have HI : Hid (∀ g, (Try.prog.info? 26).map (·.size) = some (sval sp3 g 0 6).size) := Lib.hid (fun g => by kernel_rfl)
  have HI2 : Hid (∀ g c, (Try.prog.info? 26).map (·.size) = some (sval spB g 0 c).size) := Lib.hid (fun g c => by kernel_rfl)
  have HO : Hid (∀ g, (sval sp3 g 0 6).all (·.oneCell') = true) := Lib.hid (fun g => by simp [sval, SC, Value.oneCell'])
  have HSZ : Hid (∀ g, SZ.size = (sval sp3 g 0 6).size) := Lib.hid (fun g => rfl)
  go_enter Try.func4, Try.ntmps4
  go_wp2_with (first | (go_at_call 5; (with_reducible refine (HN.out).mono ?_); rintro e w1 ⟨g, rfl, hr, hf1⟩; have HZ1 := Lib.hid (Bk.new w1 (.cells SZ 26)); have HF1 : Hid (Fr0 w (((w1.alloc (.cells SZ 26)).setRow w1.heap.size (sval sp3 g 0 6)))) := Lib.hid (ArrKit.Fr.row (Fr.alloc hf1 _) _ _ (.inl hf1.size)); have HS1 : Hid (SAt (((w1.alloc (.cells SZ 26)).setRow w1.heap.size (sval sp3 g 0 6))) w1.heap.size sp3 g 0 6) := Lib.hid ⟨ArrKit.Bk.row HZ1.out _, RdG.past hr (RdG.keep hr (Fr.alloc (Fr.refl _ _) _)) (fun _ => by simp) (Fr.row1 _ w1.heap.size (sval sp3 g 0 6)) (fun b hb e => by omega), by decide, by decide⟩; have HSW := Lib.hid hf1.size; clear hr hf1) | ((with_reducible show wpList _ _ _ ({ dst := _, op := Op.store 26 _ _, type := _, pos := _, after := _, guard := _ } :: _) _ _); refine wpList_store_row rfl 26 _ _ rfl w1.heap.size (sval sp3 g 0 6) rfl rfl 26 SZ HZ1.out (HI.out _) (HSZ.out _) (HO.out _) ?_) | (go_at_call 6; (with_reducible refine (HTA.out _ _ _ HS1.out).mono ?_); rintro e w2 ⟨rfl, ⟨⟨g2, c2, hg2, hs2⟩, hf2⟩⟩; have HS2 := Lib.hid hs2; have HF2 := Lib.hid (Fr.newG HF1.out hf2 HSW.out); clear hg2 hs2 hf2) | (go_at_call 6; (with_reducible refine (HTB.out _ _ _ _ HS2.out).mono ?_); rintro e w3 ⟨rfl, ⟨⟨g3, c3, hg3, hs3⟩, hf3⟩⟩; have HS3 := Lib.hid hs3; have HF3 := Lib.hid (Fr.newG HF2.out hf3 HSW.out); clear hg3 hs3 hf3) | ((with_reducible show wpList _ _ _ ({ dst := _, op := Op.load 26 _, type := _, pos := _, after := _, guard := _ } :: _) _ _); refine wpList_load_row_g (by rfl) 26 _ rfl w1.heap.size rfl 26 _ (0, 0) _ HS3.out.blk Try.underlying26 rfl (HI2.out _ _) ?_) | (go_at_call 10; (with_reducible refine (HUS.out _ _ _ _ HS3.out).mono ?_); rintro e w4 ⟨rfl, hf4⟩; have HF4 := Lib.hid (HF3.out.then0 hf4); clear hf4))
  go_ret
  exact ⟨rfl, HF4.out⟩

end Go.Proofs.Ytpbhnpoldjdfdaa.SpAlive
