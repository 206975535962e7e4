/- The bytes of a space copied; a new space. -/
import Derived.Test.YtpbhnpoldjdfdaaSpFind
import Derived.Lib.SliceRun
import Derived.WalkSpells
set_option linter.unusedVariables false
set_option linter.unusedSimpArgs false
namespace Go.Proofs.Ytpbhnpoldjdfdaa.SpNew
open Go Go.RowKit Go.Proofs.Ytpbhnpoldjdfdaa.K Go.Proofs.Ytpbhnpoldjdfdaa.EqKit Go.Proofs.Ytpbhnpoldjdfdaa.ArrKit Go.Proofs.Ytpbhnpoldjdfdaa.HeldKit Go.Proofs.Ytpbhnpoldjdfdaa.GKit Go.Proofs.Ytpbhnpoldjdfdaa.GRow Go.Proofs.Ytpbhnpoldjdfdaa.SpKit Go.Proofs.Ytpbhnpoldjdfdaa.SpAsk Go.Proofs.Ytpbhnpoldjdfdaa.SpFind

theorem infoB : (Try.prog.info? 5).map (fun i => (i.zero, i.size, i.bytes)) = some (some (.int .u8 0), 1, 1) := by kernel_rfl
abbrev OwnU (w : World) (g cap : Nat) (cur : Array Value) (l : List UInt8) : Prop := OwnG (fun x : UInt8 => [B x]) 1 5 w g cap cur l
set_option maxHeartbeats 2000000 in
set_option maxRecDepth 100000 in
theorem clone_calls (g0 o0 c0 : Nat) (l : List UInt8) (w : World) (hrd : RdU w (some ⟨g0, o0, none⟩) l) (hn : l.length ≤ 100000) :
    Calls Try.prog 14 #[.slice (some ⟨g0, o0, none⟩) l.length c0] w fun e w' => ∃ g cap cur, e = .returned (.slice (some ⟨g, 0, none⟩) l.length cap) ∧ w.heap.size ≤ g ∧ OwnU w' g cap cur l ∧ Fr0 w w' := by
  obtain ⟨i0, hi, hz0, hz1, hz2⟩ := info_parts infoB
  have HI : Hid (Try.prog.info? 5 = some i0 ∧ i0.zero = some (.int .u8 0) ∧ i0.size = 1 ∧ i0.bytes = 1) := Lib.hid ⟨hi, hz0, hz1, hz2⟩
  have HE : Hid (Bk (w.alloc (.cells #[] 5)) w.heap.size #[] 5) := Lib.hid (Bk.new w _)
  have HRD : Hid (RdU (w.alloc (.cells #[] 5)) (some ⟨g0, o0, none⟩) l) := Lib.hid (hrd.keep (Fr.alloc (Fr.refl _ _) _))
  clear hi hz0 hz1 hz2 hrd
  have hes := @Lib.run_eql_slice_nil Try.prog
  go_enter Try.func14, Try.ntmps14
  go_wp2_with (at_builtin; refine wpList_append_all rfl (.tmp 5) (.tmp 6) 22 (by rfl) i0 (.int .u8 0) 1 Try.underlying22 HI.out.1 HI.out.2.1 HI.out.2.2.1 HI.out.2.2.2 (by rfl) (by decide) w.heap.size HE.out (by rfl) (some ⟨g0, o0, none⟩) l.length c0 (by rfl) l rfl HRD.out (fun x _ => rfl) (fun x _ v hv => by simp only [List.mem_cons, List.not_mem_nil, or_false] at hv; subst hv; rfl) (by omega) (by omega) ?_; intro g cap cur w1 hge hown hfr)
  go_ret
  exact ⟨g, cap, cur, rfl, hge, hown, Fr.newG (Fr.alloc (Fr.refl _ _) _) hfr (Nat.le_refl _)⟩
def SZ : Array Value := #[.int .i64 0, .int .i64 0, .int .i64 0, .slice none 0 0]

def sp3 : Sp := ⟨4, 10, 3, List.replicate 6 0⟩
theorem sp3_ok : sp3.ok := ⟨by decide, by decide, by decide, by decide, by decide, by decide⟩
set_option maxHeartbeats 2000000 in
set_option maxRecDepth 100000 in
theorem new3_calls (w : World) : Calls Try.prog 5 #[.int .i64 4, .int .i64 10, .int .i64 3] w fun e w' => ∃ g, e = .returned (.tuple #[.agg (sval sp3 g 0 6), .int .i64 0]) ∧ RdU w' (some ⟨g, 0, none⟩) sp3.st ∧ Fr0 w w' := by
  have hz : ∀ W, (zeroValue 26).run Try.prog W = .ok (.agg SZ) W := by intro W; kernel_rfl
  have hmk : ∀ W : World, (Instr.makeSlice 22 (.int .i64 6) (.int .i64 6)).run Try.prog W = .ok (.slice (some ⟨W.heap.size, 0, none⟩) 6 6) (W.alloc (.cells #[.int .u8 0, .int .u8 0, .int .u8 0, .int .u8 0, .int .u8 0, .int .u8 0] 5)) := by intro W; kernel_rfl
  have hs1 : (w.alloc (.cells SZ 26)).heap.size = w.heap.size + 1 := by simp
  have hs2 : ((w.alloc (.cells SZ 26)).alloc (.cells #[.int .u8 0, .int .u8 0, .int .u8 0, .int .u8 0, .int .u8 0, .int .u8 0] 5)).heap.size = w.heap.size + 1 + 1 := by simp
  have hbd : Try.prog.built 26 [(0, .agg #[.int .i64 4, .int .i64 10]), (1, .int .i64 3), (2, .slice (some ⟨w.heap.size + 1, 0, none⟩) 6 6)] = some #[.int .i64 4, .int .i64 10, .int .i64 3, .slice (some ⟨w.heap.size + 1, 0, none⟩) 6 6] := by kernel_rfl
  have HB : Hid (Bk (((w.alloc (.cells SZ 26)).alloc (.cells #[.int .u8 0, .int .u8 0, .int .u8 0, .int .u8 0, .int .u8 0, .int .u8 0] 5)).alloc (.cells SZ 26)) (w.heap.size + 1 + 1) SZ 26) := Lib.hid (by have := Bk.new ((w.alloc (.cells SZ 26)).alloc (.cells #[.int .u8 0, .int .u8 0, .int .u8 0, .int .u8 0, .int .u8 0, .int .u8 0] 5)) (.cells SZ 26); rwa [hs2] at this)
  have HR : Hid (Bk (((w.alloc (.cells SZ 26)).alloc (.cells #[.int .u8 0, .int .u8 0, .int .u8 0, .int .u8 0, .int .u8 0, .int .u8 0] 5)).alloc (.cells SZ 26)) w.heap.size SZ 26) := Lib.hid (Bk.alloc (Bk.alloc (Bk.new w _) _) _)
  have HM : Hid (Bk (((w.alloc (.cells SZ 26)).alloc (.cells #[.int .u8 0, .int .u8 0, .int .u8 0, .int .u8 0, .int .u8 0, .int .u8 0] 5)).alloc (.cells SZ 26)) (w.heap.size + 1) #[.int .u8 0, .int .u8 0, .int .u8 0, .int .u8 0, .int .u8 0, .int .u8 0] 5) := Lib.hid (Bk.alloc (by have := Bk.new (w.alloc (.cells SZ 26)) (.cells #[.int .u8 0, .int .u8 0, .int .u8 0, .int .u8 0, .int .u8 0, .int .u8 0] 5); rwa [hs1] at this) _)
  have HF : Hid (Fr0 w (((w.alloc (.cells SZ 26)).alloc (.cells #[.int .u8 0, .int .u8 0, .int .u8 0, .int .u8 0, .int .u8 0, .int .u8 0] 5)).alloc (.cells SZ 26))) := Lib.hid (Fr.alloc (Fr.alloc (Fr.alloc (Fr.refl _ _) _) _) _)
  have HB4 : Hid (Bk ((((w.alloc (.cells SZ 26)).alloc (.cells #[.int .u8 0, .int .u8 0, .int .u8 0, .int .u8 0, .int .u8 0, .int .u8 0] 5)).alloc (.cells SZ 26)).setRow (w.heap.size + 1 + 1) #[.int .i64 4, .int .i64 10, .int .i64 3, .slice (some ⟨w.heap.size + 1, 0, none⟩) 6 6]) (w.heap.size + 1 + 1) #[.int .i64 4, .int .i64 10, .int .i64 3, .slice (some ⟨w.heap.size + 1, 0, none⟩) 6 6] 26) := Lib.hid (ArrKit.Bk.row HB.out _)
  have HR4 : Hid (Bk ((((w.alloc (.cells SZ 26)).alloc (.cells #[.int .u8 0, .int .u8 0, .int .u8 0, .int .u8 0, .int .u8 0, .int .u8 0] 5)).alloc (.cells SZ 26)).setRow (w.heap.size + 1 + 1) #[.int .i64 4, .int .i64 10, .int .i64 3, .slice (some ⟨w.heap.size + 1, 0, none⟩) 6 6]) w.heap.size SZ 26) := Lib.hid (ArrKit.Bk.rowOther HR.out _ (by omega))
  have HM4 : Hid (Bk ((((w.alloc (.cells SZ 26)).alloc (.cells #[.int .u8 0, .int .u8 0, .int .u8 0, .int .u8 0, .int .u8 0, .int .u8 0] 5)).alloc (.cells SZ 26)).setRow (w.heap.size + 1 + 1) #[.int .i64 4, .int .i64 10, .int .i64 3, .slice (some ⟨w.heap.size + 1, 0, none⟩) 6 6]) (w.heap.size + 1) #[.int .u8 0, .int .u8 0, .int .u8 0, .int .u8 0, .int .u8 0, .int .u8 0] 5) := Lib.hid (ArrKit.Bk.rowOther HM.out _ (by omega))
  have HF4 : Hid (Fr0 w ((((w.alloc (.cells SZ 26)).alloc (.cells #[.int .u8 0, .int .u8 0, .int .u8 0, .int .u8 0, .int .u8 0, .int .u8 0] 5)).alloc (.cells SZ 26)).setRow (w.heap.size + 1 + 1) #[.int .i64 4, .int .i64 10, .int .i64 3, .slice (some ⟨w.heap.size + 1, 0, none⟩) 6 6])) := Lib.hid (ArrKit.Fr.row HF.out _ _ (.inl (by omega)))
  have HU : Hid (∀ W, Bk W (w.heap.size + 1) #[.int .u8 0, .int .u8 0, .int .u8 0, .int .u8 0, .int .u8 0, .int .u8 0] 5 → RdU W (some ⟨w.heap.size + 1, 0, none⟩) sp3.st) := Lib.hid (fun W h => RdG.of fun i hi j x hj => by
    have hj0 : j = 0 := by
      have := (List.getElem?_eq_some_iff.1 hj).1
      simp only [List.length_cons, List.length_nil] at this
      omega
    subst hj0
    have hi' : i < 6 := hi
    rw [Bk.cell h, ← hj]
    rcases (show i = 0 ∨ i = 1 ∨ i = 2 ∨ i = 3 ∨ i = 4 ∨ i = 5 by omega) with rfl | rfl | rfl | rfl | rfl | rfl <;> rfl)
  have HI : Hid ((Try.prog.info? 26).map (·.size) = some (#[.int .i64 4, .int .i64 10, .int .i64 3, .slice (some ⟨w.heap.size + 1, 0, none⟩) 6 6] : Array Value).size) := Lib.hid (by kernel_rfl)
  have HO : Hid ((#[.int .i64 4, .int .i64 10, .int .i64 3, .slice (some ⟨w.heap.size + 1, 0, none⟩) 6 6] : Array Value).all (·.oneCell') = true) := Lib.hid (by simp [Value.oneCell'])
  have HFO : Hid (∀ W, Bk W (w.heap.size + 1) #[.int .u8 0, .int .u8 0, .int .u8 0, .int .u8 0, .int .u8 0, .int .u8 0] 5 → Calls Try.prog 11 #[.agg #[.int .i64 4, .int .i64 10, .int .i64 3, .slice (some ⟨w.heap.size + 1, 0, none⟩) 6 6]] W fun e w' => e = .returned (.bool true) ∧ Fr0 W w') := Lib.hid (fun W h => formed_calls sp3 (w.heap.size + 1) 0 6 W sp3_ok (HU.out W h))
  clear hs1 hs2
  go_enter Try.func5, Try.ntmps5
  go_wp2_with (first | ((with_reducible show wpList _ _ _ ({ dst := _, op := Op.build 26 _, type := _, pos := _, after := _, guard := _ } :: _) _ _); refine build_ev rfl 26 _ rfl [(0, .agg #[.int .i64 4, .int .i64 10]), (1, .int .i64 3), (2, .slice (some ⟨w.heap.size + 1, 0, none⟩) 6 6)] (by simp [Act.eval, Act.put]) #[.int .i64 4, .int .i64 10, .int .i64 3, .slice (some ⟨w.heap.size + 1, 0, none⟩) 6 6] hbd ?_) | ((with_reducible show wpList _ _ _ ({ dst := _, op := Op.store 26 _ _, type := _, pos := _, after := _, guard := _ } :: _) _ _); refine wpList_store_row rfl 26 _ _ rfl (w.heap.size + 1 + 1) #[.int .i64 4, .int .i64 10, .int .i64 3, .slice (some ⟨w.heap.size + 1, 0, none⟩) 6 6] rfl rfl 26 SZ HB.out HI.out rfl HO.out ?_) | ((with_reducible show wpList _ _ _ ({ dst := _, op := Op.load 26 _, type := _, pos := _, after := _, guard := _ } :: _) _ _); refine wpList_load_row_g (by rfl) 26 _ rfl (w.heap.size + 1 + 1) rfl 26 _ (0, 0) _ HB4.out Try.underlying26 rfl HI.out ?_) | (go_at_call 11; (with_reducible refine (HFO.out _ HM4.out).mono ?_); rintro e w5 ⟨rfl, hf5⟩; have HB5 := Lib.hid (hf5.keep HB4.out (fun h => h)); have HR5 := Lib.hid (hf5.keep HR4.out (fun h => h)); have HM5 := Lib.hid (hf5.keep HM4.out (fun h => h)); have HF5 := Lib.hid (HF4.out.then0 hf5); clear hf5) | ((with_reducible show wpList _ _ _ ({ dst := _, op := Op.load 26 _, type := _, pos := _, after := _, guard := _ } :: _) _ _); refine wpList_load_row_g (by rfl) 26 _ rfl (w.heap.size + 1 + 1) rfl 26 _ (0, 0) _ HB5.out Try.underlying26 rfl HI.out ?_) | ((with_reducible show wpList _ _ _ ({ dst := _, op := Op.store 26 _ _, type := _, pos := _, after := _, guard := _ } :: _) _ _); refine wpList_store_row rfl 26 _ _ rfl w.heap.size #[.int .i64 4, .int .i64 10, .int .i64 3, .slice (some ⟨w.heap.size + 1, 0, none⟩) 6 6] rfl rfl 26 SZ HR5.out HI.out rfl HO.out ?_))
  have fr := ArrKit.Fr.row (Fr.refl (fun i => i = w.heap.size) w5) w.heap.size #[.int .i64 4, .int .i64 10, .int .i64 3, .slice (some ⟨w.heap.size + 1, 0, none⟩) 6 6] (.inr rfl)
  refine fin_ct w.heap.size 26 #[.int .i64 4, .int .i64 10, .int .i64 3, .slice (some ⟨w.heap.size + 1, 0, none⟩) 6 6] (.int .i64 0) (by rfl) (by rfl) (by rfl) (by rfl) Try.underlying26 (by rfl) HI.out (ArrKit.Bk.row HR5.out _) ?_
  exact ⟨w.heap.size + 1, rfl, HU.out _ (fr.keep HM5.out (by omega)), ArrKit.Fr.row HF5.out _ _ (.inl (Nat.le_refl _))⟩

def sp6 : Sp := ⟨3, 20, 6, List.replicate 12 0⟩
theorem sp6_ok : sp6.ok := ⟨by decide, by decide, by decide, by decide, by decide, by decide⟩
set_option maxHeartbeats 2000000 in
set_option maxRecDepth 100000 in
theorem new6_calls (w : World) : Calls Try.prog 5 #[.int .i64 3, .int .i64 20, .int .i64 6] w fun e w' => ∃ g, e = .returned (.tuple #[.agg (sval sp6 g 0 12), .int .i64 0]) ∧ RdU w' (some ⟨g, 0, none⟩) sp6.st ∧ Fr0 w w' := by
  have hz : ∀ W, (zeroValue 26).run Try.prog W = .ok (.agg SZ) W := by intro W; kernel_rfl
  have hmk : ∀ W : World, (Instr.makeSlice 22 (.int .i64 12) (.int .i64 12)).run Try.prog W = .ok (.slice (some ⟨W.heap.size, 0, none⟩) 12 12) (W.alloc (.cells #[.int .u8 0, .int .u8 0, .int .u8 0, .int .u8 0, .int .u8 0, .int .u8 0, .int .u8 0, .int .u8 0, .int .u8 0, .int .u8 0, .int .u8 0, .int .u8 0] 5)) := by intro W; kernel_rfl
  have hs1 : (w.alloc (.cells SZ 26)).heap.size = w.heap.size + 1 := by simp
  have hs2 : ((w.alloc (.cells SZ 26)).alloc (.cells #[.int .u8 0, .int .u8 0, .int .u8 0, .int .u8 0, .int .u8 0, .int .u8 0, .int .u8 0, .int .u8 0, .int .u8 0, .int .u8 0, .int .u8 0, .int .u8 0] 5)).heap.size = w.heap.size + 1 + 1 := by simp
  have hbd : Try.prog.built 26 [(0, .agg #[.int .i64 3, .int .i64 20]), (1, .int .i64 6), (2, .slice (some ⟨w.heap.size + 1, 0, none⟩) 12 12)] = some #[.int .i64 3, .int .i64 20, .int .i64 6, .slice (some ⟨w.heap.size + 1, 0, none⟩) 12 12] := by kernel_rfl
  have HB : Hid (Bk (((w.alloc (.cells SZ 26)).alloc (.cells #[.int .u8 0, .int .u8 0, .int .u8 0, .int .u8 0, .int .u8 0, .int .u8 0, .int .u8 0, .int .u8 0, .int .u8 0, .int .u8 0, .int .u8 0, .int .u8 0] 5)).alloc (.cells SZ 26)) (w.heap.size + 1 + 1) SZ 26) := Lib.hid (by have := Bk.new ((w.alloc (.cells SZ 26)).alloc (.cells #[.int .u8 0, .int .u8 0, .int .u8 0, .int .u8 0, .int .u8 0, .int .u8 0, .int .u8 0, .int .u8 0, .int .u8 0, .int .u8 0, .int .u8 0, .int .u8 0] 5)) (.cells SZ 26); rwa [hs2] at this)
  have HR : Hid (Bk (((w.alloc (.cells SZ 26)).alloc (.cells #[.int .u8 0, .int .u8 0, .int .u8 0, .int .u8 0, .int .u8 0, .int .u8 0, .int .u8 0, .int .u8 0, .int .u8 0, .int .u8 0, .int .u8 0, .int .u8 0] 5)).alloc (.cells SZ 26)) w.heap.size SZ 26) := Lib.hid (Bk.alloc (Bk.alloc (Bk.new w _) _) _)
  have HM : Hid (Bk (((w.alloc (.cells SZ 26)).alloc (.cells #[.int .u8 0, .int .u8 0, .int .u8 0, .int .u8 0, .int .u8 0, .int .u8 0, .int .u8 0, .int .u8 0, .int .u8 0, .int .u8 0, .int .u8 0, .int .u8 0] 5)).alloc (.cells SZ 26)) (w.heap.size + 1) #[.int .u8 0, .int .u8 0, .int .u8 0, .int .u8 0, .int .u8 0, .int .u8 0, .int .u8 0, .int .u8 0, .int .u8 0, .int .u8 0, .int .u8 0, .int .u8 0] 5) := Lib.hid (Bk.alloc (by have := Bk.new (w.alloc (.cells SZ 26)) (.cells #[.int .u8 0, .int .u8 0, .int .u8 0, .int .u8 0, .int .u8 0, .int .u8 0, .int .u8 0, .int .u8 0, .int .u8 0, .int .u8 0, .int .u8 0, .int .u8 0] 5); rwa [hs1] at this) _)
  have HF : Hid (Fr0 w (((w.alloc (.cells SZ 26)).alloc (.cells #[.int .u8 0, .int .u8 0, .int .u8 0, .int .u8 0, .int .u8 0, .int .u8 0, .int .u8 0, .int .u8 0, .int .u8 0, .int .u8 0, .int .u8 0, .int .u8 0] 5)).alloc (.cells SZ 26))) := Lib.hid (Fr.alloc (Fr.alloc (Fr.alloc (Fr.refl _ _) _) _) _)
  have HB4 : Hid (Bk ((((w.alloc (.cells SZ 26)).alloc (.cells #[.int .u8 0, .int .u8 0, .int .u8 0, .int .u8 0, .int .u8 0, .int .u8 0, .int .u8 0, .int .u8 0, .int .u8 0, .int .u8 0, .int .u8 0, .int .u8 0] 5)).alloc (.cells SZ 26)).setRow (w.heap.size + 1 + 1) #[.int .i64 3, .int .i64 20, .int .i64 6, .slice (some ⟨w.heap.size + 1, 0, none⟩) 12 12]) (w.heap.size + 1 + 1) #[.int .i64 3, .int .i64 20, .int .i64 6, .slice (some ⟨w.heap.size + 1, 0, none⟩) 12 12] 26) := Lib.hid (ArrKit.Bk.row HB.out _)
  have HR4 : Hid (Bk ((((w.alloc (.cells SZ 26)).alloc (.cells #[.int .u8 0, .int .u8 0, .int .u8 0, .int .u8 0, .int .u8 0, .int .u8 0, .int .u8 0, .int .u8 0, .int .u8 0, .int .u8 0, .int .u8 0, .int .u8 0] 5)).alloc (.cells SZ 26)).setRow (w.heap.size + 1 + 1) #[.int .i64 3, .int .i64 20, .int .i64 6, .slice (some ⟨w.heap.size + 1, 0, none⟩) 12 12]) w.heap.size SZ 26) := Lib.hid (ArrKit.Bk.rowOther HR.out _ (by omega))
  have HM4 : Hid (Bk ((((w.alloc (.cells SZ 26)).alloc (.cells #[.int .u8 0, .int .u8 0, .int .u8 0, .int .u8 0, .int .u8 0, .int .u8 0, .int .u8 0, .int .u8 0, .int .u8 0, .int .u8 0, .int .u8 0, .int .u8 0] 5)).alloc (.cells SZ 26)).setRow (w.heap.size + 1 + 1) #[.int .i64 3, .int .i64 20, .int .i64 6, .slice (some ⟨w.heap.size + 1, 0, none⟩) 12 12]) (w.heap.size + 1) #[.int .u8 0, .int .u8 0, .int .u8 0, .int .u8 0, .int .u8 0, .int .u8 0, .int .u8 0, .int .u8 0, .int .u8 0, .int .u8 0, .int .u8 0, .int .u8 0] 5) := Lib.hid (ArrKit.Bk.rowOther HM.out _ (by omega))
  have HF4 : Hid (Fr0 w ((((w.alloc (.cells SZ 26)).alloc (.cells #[.int .u8 0, .int .u8 0, .int .u8 0, .int .u8 0, .int .u8 0, .int .u8 0, .int .u8 0, .int .u8 0, .int .u8 0, .int .u8 0, .int .u8 0, .int .u8 0] 5)).alloc (.cells SZ 26)).setRow (w.heap.size + 1 + 1) #[.int .i64 3, .int .i64 20, .int .i64 6, .slice (some ⟨w.heap.size + 1, 0, none⟩) 12 12])) := Lib.hid (ArrKit.Fr.row HF.out _ _ (.inl (by omega)))
  have HU : Hid (∀ W, Bk W (w.heap.size + 1) #[.int .u8 0, .int .u8 0, .int .u8 0, .int .u8 0, .int .u8 0, .int .u8 0, .int .u8 0, .int .u8 0, .int .u8 0, .int .u8 0, .int .u8 0, .int .u8 0] 5 → RdU W (some ⟨w.heap.size + 1, 0, none⟩) sp6.st) := Lib.hid (fun W h => RdG.of fun i hi j x hj => by
    have hj0 : j = 0 := by
      have := (List.getElem?_eq_some_iff.1 hj).1
      simp only [List.length_cons, List.length_nil] at this
      omega
    subst hj0
    have hi' : i < 12 := hi
    rw [Bk.cell h, ← hj]
    rcases (show i = 0 ∨ i = 1 ∨ i = 2 ∨ i = 3 ∨ i = 4 ∨ i = 5 ∨ i = 6 ∨ i = 7 ∨ i = 8 ∨ i = 9 ∨ i = 10 ∨ i = 11 by omega) with rfl | rfl | rfl | rfl | rfl | rfl | rfl | rfl | rfl | rfl | rfl | rfl <;> rfl)
  have HI : Hid ((Try.prog.info? 26).map (·.size) = some (#[.int .i64 3, .int .i64 20, .int .i64 6, .slice (some ⟨w.heap.size + 1, 0, none⟩) 12 12] : Array Value).size) := Lib.hid (by kernel_rfl)
  have HO : Hid ((#[.int .i64 3, .int .i64 20, .int .i64 6, .slice (some ⟨w.heap.size + 1, 0, none⟩) 12 12] : Array Value).all (·.oneCell') = true) := Lib.hid (by simp [Value.oneCell'])
  have HFO : Hid (∀ W, Bk W (w.heap.size + 1) #[.int .u8 0, .int .u8 0, .int .u8 0, .int .u8 0, .int .u8 0, .int .u8 0, .int .u8 0, .int .u8 0, .int .u8 0, .int .u8 0, .int .u8 0, .int .u8 0] 5 → Calls Try.prog 11 #[.agg #[.int .i64 3, .int .i64 20, .int .i64 6, .slice (some ⟨w.heap.size + 1, 0, none⟩) 12 12]] W fun e w' => e = .returned (.bool true) ∧ Fr0 W w') := Lib.hid (fun W h => formed_calls sp6 (w.heap.size + 1) 0 12 W sp6_ok (HU.out W h))
  clear hs1 hs2
  go_enter Try.func5, Try.ntmps5
  go_wp2_with (first | ((with_reducible show wpList _ _ _ ({ dst := _, op := Op.build 26 _, type := _, pos := _, after := _, guard := _ } :: _) _ _); refine build_ev rfl 26 _ rfl [(0, .agg #[.int .i64 3, .int .i64 20]), (1, .int .i64 6), (2, .slice (some ⟨w.heap.size + 1, 0, none⟩) 12 12)] (by simp [Act.eval, Act.put]) #[.int .i64 3, .int .i64 20, .int .i64 6, .slice (some ⟨w.heap.size + 1, 0, none⟩) 12 12] hbd ?_) | ((with_reducible show wpList _ _ _ ({ dst := _, op := Op.store 26 _ _, type := _, pos := _, after := _, guard := _ } :: _) _ _); refine wpList_store_row rfl 26 _ _ rfl (w.heap.size + 1 + 1) #[.int .i64 3, .int .i64 20, .int .i64 6, .slice (some ⟨w.heap.size + 1, 0, none⟩) 12 12] rfl rfl 26 SZ HB.out HI.out rfl HO.out ?_) | ((with_reducible show wpList _ _ _ ({ dst := _, op := Op.load 26 _, type := _, pos := _, after := _, guard := _ } :: _) _ _); refine wpList_load_row_g (by rfl) 26 _ rfl (w.heap.size + 1 + 1) rfl 26 _ (0, 0) _ HB4.out Try.underlying26 rfl HI.out ?_) | (go_at_call 11; (with_reducible refine (HFO.out _ HM4.out).mono ?_); rintro e w5 ⟨rfl, hf5⟩; have HB5 := Lib.hid (hf5.keep HB4.out (fun h => h)); have HR5 := Lib.hid (hf5.keep HR4.out (fun h => h)); have HM5 := Lib.hid (hf5.keep HM4.out (fun h => h)); have HF5 := Lib.hid (HF4.out.then0 hf5); clear hf5) | ((with_reducible show wpList _ _ _ ({ dst := _, op := Op.load 26 _, type := _, pos := _, after := _, guard := _ } :: _) _ _); refine wpList_load_row_g (by rfl) 26 _ rfl (w.heap.size + 1 + 1) rfl 26 _ (0, 0) _ HB5.out Try.underlying26 rfl HI.out ?_) | ((with_reducible show wpList _ _ _ ({ dst := _, op := Op.store 26 _ _, type := _, pos := _, after := _, guard := _ } :: _) _ _); refine wpList_store_row rfl 26 _ _ rfl w.heap.size #[.int .i64 3, .int .i64 20, .int .i64 6, .slice (some ⟨w.heap.size + 1, 0, none⟩) 12 12] rfl rfl 26 SZ HR5.out HI.out rfl HO.out ?_))
  have fr := ArrKit.Fr.row (Fr.refl (fun i => i = w.heap.size) w5) w.heap.size #[.int .i64 3, .int .i64 20, .int .i64 6, .slice (some ⟨w.heap.size + 1, 0, none⟩) 12 12] (.inr rfl)
  refine fin_ct w.heap.size 26 #[.int .i64 3, .int .i64 20, .int .i64 6, .slice (some ⟨w.heap.size + 1, 0, none⟩) 12 12] (.int .i64 0) (by rfl) (by rfl) (by rfl) (by rfl) Try.underlying26 (by rfl) HI.out (ArrKit.Bk.row HR5.out _) ?_
  exact ⟨w.heap.size + 1, rfl, HU.out _ (fr.keep HM5.out (by omega)), ArrKit.Fr.row HF5.out _ _ (.inl (Nat.le_refl _))⟩

end Go.Proofs.Ytpbhnpoldjdfdaa.SpNew
