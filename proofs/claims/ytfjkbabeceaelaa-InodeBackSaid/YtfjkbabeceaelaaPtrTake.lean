/- The pointer at a place: the walk of ptr.Take. -/
import Derived.Test.YtfjkbabeceaelaaPtrPut
import Derived.Test.YtfjkbabeceaelaaPtrROf
set_option linter.unusedVariables false
set_option linter.unusedSimpArgs false
namespace Go.Proofs.Ytfjkbabeceaelaa.PtrTake
open Go Go.RowKit Go.Proofs.Ytfjkbabeceaelaa.K Go.Proofs.Ytfjkbabeceaelaa.EqKit Go.Proofs.Ytfjkbabeceaelaa.PtrKit Go.Proofs.Ytfjkbabeceaelaa.ArrKit Go.Proofs.Ytfjkbabeceaelaa.HeldKit Go.Proofs.Ytfjkbabeceaelaa.PtrAsk Go.Proofs.Ytfjkbabeceaelaa.ShaStep Go.Proofs.Ytfjkbabeceaelaa.ShaRef Go.Proofs.Ytfjkbabeceaelaa.ShaSum Go.Proofs.Ytfjkbabeceaelaa.PtrOf Go.Proofs.Ytfjkbabeceaelaa.WordPut Go.Proofs.Ytfjkbabeceaelaa.WordTake Go.Proofs.Ytfjkbabeceaelaa.PtrPut

set_option maxHeartbeats 2000000 in
set_option maxRecDepth 100000 in
theorem take_room (A0 : Option Addr) (n c : Nat) (p : Int) (w : World) (hn : n ≤ 140737488351232) (h : NoRoom n p 40) :
    Calls Try.prog 19 #[.slice A0 n c, .int .i64 p] w fun e w' => e = .returned (.tuple #[.agg ZERO, .int .i64 1]) ∧ Fr0 w w' := by
  have HR := Lib.hid h
  have HZB : Hid (Try.prog.built 26 [] = some ZERO) := Lib.hid (by kernel_rfl)
  have HN : Hid (Bk (w.alloc (.cells ZERO 26)) w.heap.size ZERO 26) := Lib.hid (Bk.new w _)
  clear h
  go_enter Try.func19, Try.ntmps19
  go_wp2_with (first | (go_at_call 32; (with_reducible refine (pcut_no A0 n c p _ hn HR.out).mono ?_); rintro e w1 ⟨rfl, rfl⟩) | (refine PtrAsk.build_eq rfl 26 _ rfl ZERO (by kernel_rfl) ?_) | (refine wpList_store_row rfl 26 _ _ rfl w.heap.size ZERO rfl rfl 26 ZERO HN.out info_p rfl ZERO_one ?_))
  refine fin_ct w.heap.size 26 ZERO (.int .i64 1) (by rfl) (by rfl) (by rfl) (by rfl) Try.underlying26 (by rfl) info_p (ArrKit.Bk.row HN.out _) ?_
  exact ⟨rfl, ArrKit.Fr.row (Fr.alloc (Fr.refl _ _) _) _ _ (.inl (Nat.le_refl _))⟩

theorem built_p2 (s : List UInt8) (hs : s.length = 32) : Try.prog.built 26 [(2, .agg (s.map B).toArray)] = some (PC 0 0 s).toArray := by
  match s, hs with
  | [s0, s1, s2, s3, s4, s5, s6, s7, s8, s9, s10, s11, s12, s13, s14, s15, s16, s17, s18, s19, s20, s21, s22, s23, s24, s25, s26, s27, s28, s29, s30, s31], _ => (show _ = _; kernel_rfl)
/-- what a number of 4 bytes says -/
def dec (x : Nat) : Int := if x = 4294967295 then -1 else x

set_option maxHeartbeats 2000000 in
set_option maxRecDepth 100000 in
theorem take_nn (g o n c p : Nat) (q1 q2 s : List UInt8) (w : World) (h1 : q1.length = 4) (h2 : q2.length = 4) (hs : s.length = 32) (e1 : num q1 = (4294967295 : Nat)) (e2 : num q2 = (4294967295 : Nat)) (hrd : Rd w (some ⟨g, o + p, none⟩) (q1 ++ (q2 ++ s))) (hc : n ≤ c) (hcm : c ≤ 9223372036854775807) (hn : n ≤ 140737488351232) (hr : p + 40 ≤ n) :
    Calls Try.prog 19 #[.slice (some ⟨g, o, none⟩) n c, .int .i64 p] w fun e w' => e = .returned (if rightB (-1) (-1) s then .tuple #[.agg (PC (-1) (-1) s).toArray, .int .i64 0] else .tuple #[.agg ZERO, .int .i64 15]) ∧ Fr0 w w' := by
  have hc8 : c - p ≠ 8 := by omega
  have hcp : (8 : Int) ≤ ((c - p : Nat) : Int) := by omega
  have hml : (q1 ++ (q2 ++ s)).length = 40 := by simp [h1, h2, hs]
  have hx1 : num q1 < 4294967296 := by have := num_lt q1; rw [h1] at this; simpa using this
  have hx2 : num q2 < 4294967296 := by have := num_lt q2; rw [h2] at this; simpa using this
  have hq1 : ((q1 ++ (q2 ++ s)).drop 0).take 4 = q1 := by rw [List.drop_zero, List.take_left' h1]
  have hq2 : ((q1 ++ (q2 ++ s)).drop 4).take 4 = q2 := by rw [List.drop_left' h1, List.take_left' h2]
  have hgw : g < w.heap.size := by
    obtain ⟨b, o', e, hb, -⟩ := hrd.form (by omega)
    simp only [Option.some.injEq, Addr.mk.injEq] at e
    rw [e.1]; exact hb
  have HW1 : Hid (∀ W : World, Rd W (some ⟨g, o + p, none⟩) (q1 ++ (q2 ++ s)) → Calls Try.prog 20 #[.slice (some ⟨g, o + p, none⟩) 40 (c - p), .int .i64 0, .int .i64 4] W fun e w' => e = .returned (.tuple #[.int .i64 4294967295, .int .i64 0]) ∧ W = w') := Lib.hid (fun W h => by
    have := take_ok g (o + p) 40 (c - p) 0 4 (q1 ++ (q2 ++ s)) W hml h (by omega) (by omega) (by omega) (by omega) (by omega) (by omega) (by rw [hq1]; omega)
    rw [hq1, e1] at this
    exact this)
  have HW2 : Hid (∀ W : World, Rd W (some ⟨g, o + p, none⟩) (q1 ++ (q2 ++ s)) → Calls Try.prog 20 #[.slice (some ⟨g, o + p, none⟩) 40 (c - p), .int .i64 4, .int .i64 4] W fun e w' => e = .returned (.tuple #[.int .i64 4294967295, .int .i64 0]) ∧ W = w') := Lib.hid (fun W h => by
    have := take_ok g (o + p) 40 (c - p) 4 4 (q1 ++ (q2 ++ s)) W hml h (by omega) (by omega) (by omega) (by omega) (by omega) (by omega) (by rw [hq2]; omega)
    rw [hq2, e2] at this
    exact this)
  have HRG : Hid (∀ W : World, Rd W (some ⟨g, o + p, none⟩) (q1 ++ (q2 ++ s)) → W.rangeAt g (o + p + 8) (s.map B)) := Lib.hid (fun W h j v hj => by
    rw [List.getElem?_map] at hj
    obtain ⟨u, hu, rfl⟩ := Option.map_eq_some_iff.1 hj
    obtain ⟨hjl, rfl⟩ := List.getElem?_eq_some_iff.1 hu
    obtain ⟨a, ea, hca⟩ := h (8 + j) (by omega)
    obtain rfl := Option.some.inj ea
    rw [add_form] at hca
    rw [Nat.add_assoc, hca, List.getElem_append_right (by omega), List.getElem_append_right (by omega)]
    simp [h1, h2, show 8 + j - 4 - 4 = j by omega])
  have HIS : Hid ((Try.prog.info? 24).map (·.size) = some (s.map B).length) := Lib.hid (by rw [info32a, List.length_map, hs])
  have HBT := Lib.hid (built_p2 s hs)
  have HIP : Hid ((Try.prog.info? 26).map (·.size) = some (PC 0 0 s).toArray.size) := Lib.hid (by rw [info_p, List.size_toArray, PC_length, hs])
  have HZP : Hid (ZERO.size = (PC 0 0 s).toArray.size) := Lib.hid ((show ZERO.size = 34 from rfl).trans (by rw [List.size_toArray, PC_length, hs]))
  have HPO : Hid ((PC 0 0 s).toArray.all (·.oneCell') = true) := Lib.hid (by simp [PC, B, Value.oneCell'])
  have hat : ∀ W : World, (Instr.arrayAt 24 (.slice (some ⟨g, o + p + 8, none⟩) 32 (c - p - 8))).run Try.prog W = .ok (.pointer (some ⟨g, o + p + 8, none⟩)) W := fun W => by
    simp [Instr.arrayAt, run_underlying Try.underlying24]
  have HR0 : Hid (Bk (w.alloc (.cells ZERO 26)) w.heap.size ZERO 26) := Lib.hid (Bk.new w _)
  have HF0 : Hid (Fr0 w (w.alloc (.cells ZERO 26))) := Lib.hid (Fr.alloc (Fr.refl _ _) _)
  have HD0 : Hid (Rd (w.alloc (.cells ZERO 26)) (some ⟨g, o + p, none⟩) (q1 ++ (q2 ++ s))) := Lib.hid (hrd.later HF0.out (fun _ _ h => h))
  have HRG0 := Lib.hid (HRG.out _ HD0.out)
  have hwfa : (Lit.int .i64 (-1)).wf = true := by decide
  have hwfb : (Lit.int .i64 (-1)).wf = true := by decide
  have HRI : Hid (∀ W : World, Calls Try.prog 31 #[.agg (PC (-1) (-1) s).toArray] W fun e w' => e = .returned (.bool (rightB (-1) (-1) s)) ∧ Fr0 W w') := Lib.hid (fun W => right_calls (-1) (-1) s W hs hwfa hwfb)
  have HIQ : Hid ((Try.prog.info? 26).map (·.size) = some (PC (-1) (-1) s).toArray.size) := Lib.hid (by rw [info_p, List.size_toArray, PC_length, hs])
  have HZQ : Hid (ZERO.size = (PC (-1) (-1) s).toArray.size) := Lib.hid ((show ZERO.size = 34 from rfl).trans (by rw [List.size_toArray, PC_length, hs]))
  have HQO : Hid ((PC (-1) (-1) s).toArray.all (·.oneCell') = true) := Lib.hid (by simp [PC, B, Value.oneCell'])
  have hs1 : (w.alloc (.cells ZERO 26)).heap.size = w.heap.size + 1 := by simp
  have HP1 : Hid (Bk ((w.alloc (.cells ZERO 26)).alloc (.cells ZERO 26)) (w.heap.size + 1) ZERO 26) := Lib.hid (by have := Bk.new (w.alloc (.cells ZERO 26)) (.cells ZERO 26); rwa [hs1] at this)
  have HP2 : Hid (Bk (((w.alloc (.cells ZERO 26)).alloc (.cells ZERO 26)).setRow (w.heap.size + 1) (PC 0 0 s).toArray) (w.heap.size + 1) (PC 0 0 s).toArray 26) := Lib.hid (ArrKit.Bk.row HP1.out _)
  have HR2 : Hid (Bk (((w.alloc (.cells ZERO 26)).alloc (.cells ZERO 26)).setRow (w.heap.size + 1) (PC 0 0 s).toArray) w.heap.size ZERO 26) := Lib.hid (ArrKit.Bk.rowOther (Bk.alloc HR0.out _) _ (by omega))
  have HF2 : Hid (Fr0 w (((w.alloc (.cells ZERO 26)).alloc (.cells ZERO 26)).setRow (w.heap.size + 1) (PC 0 0 s).toArray)) := Lib.hid (ArrKit.Fr.row (Fr.alloc HF0.out _) _ _ (.inl (by omega)))
  have HD2 : Hid (Rd (((w.alloc (.cells ZERO 26)).alloc (.cells ZERO 26)).setRow (w.heap.size + 1) (PC 0 0 s).toArray) (some ⟨g, o + p, none⟩) (q1 ++ (q2 ++ s))) := Lib.hid (hrd.later HF2.out (fun _ _ h => h))
  clear hs1
  clear hml hx1 hx2 hq1 hq2 e1 e2 hrd h1 h2 hs
  generalize hqq : q1 ++ (q2 ++ s) = m at *
  clear hqq
  generalize rightB (-1) (-1) s = r at *
  go_enter Try.func19, Try.ntmps19
  go_wp2_with (first | (go_at_call 32; (with_reducible refine (pcut_ok g o n c p _ hc hcm hn hr).mono ?_); rintro e w1 ⟨rfl, rfl⟩) | (refine wpList_load_mid rfl 24 _ rfl g (o + p + 8) rfl (s.map B) _ HRG0.out Try.underlying24 rfl HIS.out ?_) | (refine PtrROf.build_ev rfl 26 #[(2, .tmp 25)] rfl [(2, .agg (s.map B).toArray)] (by simp [Act.eval, Act.put]) (PC 0 0 s).toArray HBT.out ?_) | (refine wpList_store_row rfl 26 _ _ rfl (w.heap.size + 1) (PC 0 0 s).toArray rfl rfl 26 ZERO HP1.out HIP.out HZP.out HPO.out ?_; change wpList _ _ _ _ _ (((w.alloc (.cells ZERO 26)).alloc (.cells ZERO 26)).setRow (w.heap.size + 1) (PC 0 0 s).toArray); generalize ((w.alloc (.cells ZERO 26)).alloc (.cells ZERO 26)).setRow (w.heap.size + 1) (PC 0 0 s).toArray = w2 at *))
  have hHg : w.heap.size + 1 ≠ g := by omega
  have hHr : w.heap.size + 1 ≠ w.heap.size := by omega
  have hwH : w.heap.size ≤ w.heap.size + 1 := by omega
  generalize w.heap.size + 1 = H at *
  have hi0 : ∀ W, (Instr.index 63 (.agg #[.pointer (some ⟨H, 0, none⟩), .pointer (some ⟨H, 1, none⟩)]) (.int .i64 0)).run Try.prog W = .ok (.pointer (some ⟨H, 0, none⟩)) W := fun W => index_arr (k := 0) W Try.underlying63 (e := 62) (by kernel_rfl) (by kernel_rfl) (by omega) rfl
  have hi1 : ∀ W, (Instr.index 63 (.agg #[.pointer (some ⟨H, 0, none⟩), .pointer (some ⟨H, 1, none⟩)]) (.int .i64 1)).run Try.prog W = .ok (.pointer (some ⟨H, 1, none⟩)) W := fun W => index_arr (k := 1) W Try.underlying63 (e := 62) (by kernel_rfl) (by kernel_rfl) (by omega) rfl
  have hp0 : w2.cell? ⟨H, 0, none⟩ = some (.int .i64 0) := Bk.cell HP2.out 0
  have hz0 : w2.frozen? ⟨H, 0, none⟩ = false := Bk.free HP2.out 0
  refine wp_loop_rounds 3 ?_
  rw [rounds_succ]
  go_wp2_with (first | (go_at_call 20; (with_reducible refine (HW1.out _ HD2.out).mono ?_); rintro e w3 ⟨rfl, rfl⟩))
  have HP4 := Lib.hid (HP2.out.set 0 (.int .i64 (-1)))
  have HR4 : Hid (Bk (w2.setCell ⟨H, 0, none⟩ (.int .i64 (-1))) w.heap.size ZERO 26) := Lib.hid (Bk.setOther HR2.out _ _ (Ne.symm hHr))
  have HF4 : Hid (Fr0 w (w2.setCell ⟨H, 0, none⟩ (.int .i64 (-1)))) := Lib.hid (Fr.set HF2.out _ _ (.inl hwH))
  have HD4 : Hid (Rd (w2.setCell ⟨H, 0, none⟩ (.int .i64 (-1))) (some ⟨g, o + p, none⟩) m) := Lib.hid (HD2.out.later (S := fun i => i = H) (Fr.set (Fr.refl _ _) _ _ (.inr rfl)) (fun a e => by obtain rfl := Option.some.inj e; exact Ne.symm hHg))
  clear hp0 hz0
  generalize w2.setCell ⟨H, 0, none⟩ (.int .i64 (-1)) = w4 at *
  have hp1 : w4.cell? ⟨H, 1, none⟩ = some (.int .i64 0) := (Bk.cell HP4.out 1).trans rfl
  have hz1 : w4.frozen? ⟨H, 1, none⟩ = false := Bk.free HP4.out 1
  rw [rounds_succ]
  go_wp2_with (first | (go_at_call 20; (with_reducible refine (HW2.out _ HD4.out).mono ?_); rintro e w5 ⟨rfl, rfl⟩))
  have HP6 : Hid (Bk (w4.setCell ⟨H, 1, none⟩ (.int .i64 (-1))) H (PC (-1) (-1) s).toArray 26) := Lib.hid (HP4.out.set 1 (.int .i64 (-1)))
  have HR6 : Hid (Bk (w4.setCell ⟨H, 1, none⟩ (.int .i64 (-1))) w.heap.size ZERO 26) := Lib.hid (Bk.setOther HR4.out _ _ (Ne.symm hHr))
  have HF6 : Hid (Fr0 w (w4.setCell ⟨H, 1, none⟩ (.int .i64 (-1)))) := Lib.hid (Fr.set HF4.out _ _ (.inl hwH))
  clear hp1 hz1
  generalize w4.setCell ⟨H, 1, none⟩ (.int .i64 (-1)) = w6 at *
  rw [rounds_succ]
  clear hi0 hi1 hat
  cases r with
  | false =>
    go_wp2_with (first | (refine wpList_load_row rfl 26 _ rfl H rfl 26 (PC (-1) (-1) s).toArray (0, 0) _ HP6.out Try.underlying26 rfl HIQ.out ?_) | (go_at_call 31; (with_reducible refine (HRI.out _).mono ?_); rintro e w7 ⟨rfl, hf7⟩; have HF7 := Lib.hid (HF6.out.then0 hf7); have HP7 := Lib.hid (hf7.keep HP6.out (fun h => h)); have HR7 := Lib.hid (hf7.keep HR6.out (fun h => h)); clear hf7) | (refine PtrAsk.build_eq rfl 26 _ rfl ZERO (by kernel_rfl) ?_) | (refine wpList_store_row rfl 26 _ _ rfl w.heap.size ZERO rfl rfl 26 ZERO HR7.out info_p rfl ZERO_one ?_))
    refine fin_ct w.heap.size 26 ZERO (.int .i64 15) (by rfl) (by rfl) (by rfl) (by rfl) Try.underlying26 (by rfl) info_p (ArrKit.Bk.row HR7.out _) ?_
    exact ⟨rfl, ArrKit.Fr.row HF7.out _ _ (.inl (Nat.le_refl _))⟩
  | true =>
    go_wp2_with (first | (refine wpList_load_row rfl 26 _ rfl H rfl 26 (PC (-1) (-1) s).toArray (0, 0) _ HP6.out Try.underlying26 rfl HIQ.out ?_) | (go_at_call 31; (with_reducible refine (HRI.out _).mono ?_); rintro e w7 ⟨rfl, hf7⟩; have HF7 := Lib.hid (HF6.out.then0 hf7); have HP7 := Lib.hid (hf7.keep HP6.out (fun h => h)); have HR7 := Lib.hid (hf7.keep HR6.out (fun h => h)); clear hf7) | (refine wpList_load_row rfl 26 _ rfl H rfl 26 (PC (-1) (-1) s).toArray (0, 0) _ HP7.out Try.underlying26 rfl HIQ.out ?_) | (refine wpList_store_row rfl 26 _ _ rfl w.heap.size (PC (-1) (-1) s).toArray rfl rfl 26 ZERO HR7.out HIQ.out HZQ.out HQO.out ?_))
    refine fin_ct w.heap.size 26 (PC (-1) (-1) s).toArray (.int .i64 0) (by rfl) (by rfl) (by rfl) (by rfl) Try.underlying26 (by rfl) HIQ.out (ArrKit.Bk.row HR7.out _) ?_
    exact ⟨rfl, ArrKit.Fr.row HF7.out _ _ (.inl (Nat.le_refl _))⟩

set_option maxHeartbeats 2000000 in
set_option maxRecDepth 100000 in
theorem take_ns (g o n c p : Nat) (xb : Nat) (hxb : xb ≠ 4294967295) (q1 q2 s : List UInt8) (w : World) (h1 : q1.length = 4) (h2 : q2.length = 4) (hs : s.length = 32) (e1 : num q1 = (4294967295 : Nat)) (e2 : num q2 = xb) (hrd : Rd w (some ⟨g, o + p, none⟩) (q1 ++ (q2 ++ s))) (hc : n ≤ c) (hcm : c ≤ 9223372036854775807) (hn : n ≤ 140737488351232) (hr : p + 40 ≤ n) :
    Calls Try.prog 19 #[.slice (some ⟨g, o, none⟩) n c, .int .i64 p] w fun e w' => e = .returned (if rightB (-1) ((xb : Int)) s then .tuple #[.agg (PC (-1) ((xb : Int)) s).toArray, .int .i64 0] else .tuple #[.agg ZERO, .int .i64 15]) ∧ Fr0 w w' := by
  have cxb : ((xb : Int) == 4294967295) = false := by rw [beq_eq_false_iff_ne]; omega
  have hc8 : c - p ≠ 8 := by omega
  have hcp : (8 : Int) ≤ ((c - p : Nat) : Int) := by omega
  have hml : (q1 ++ (q2 ++ s)).length = 40 := by simp [h1, h2, hs]
  have hx1 : num q1 < 4294967296 := by have := num_lt q1; rw [h1] at this; simpa using this
  have hx2 : num q2 < 4294967296 := by have := num_lt q2; rw [h2] at this; simpa using this
  have hq1 : ((q1 ++ (q2 ++ s)).drop 0).take 4 = q1 := by rw [List.drop_zero, List.take_left' h1]
  have hq2 : ((q1 ++ (q2 ++ s)).drop 4).take 4 = q2 := by rw [List.drop_left' h1, List.take_left' h2]
  have hgw : g < w.heap.size := by
    obtain ⟨b, o', e, hb, -⟩ := hrd.form (by omega)
    simp only [Option.some.injEq, Addr.mk.injEq] at e
    rw [e.1]; exact hb
  have HW1 : Hid (∀ W : World, Rd W (some ⟨g, o + p, none⟩) (q1 ++ (q2 ++ s)) → Calls Try.prog 20 #[.slice (some ⟨g, o + p, none⟩) 40 (c - p), .int .i64 0, .int .i64 4] W fun e w' => e = .returned (.tuple #[.int .i64 4294967295, .int .i64 0]) ∧ W = w') := Lib.hid (fun W h => by
    have := take_ok g (o + p) 40 (c - p) 0 4 (q1 ++ (q2 ++ s)) W hml h (by omega) (by omega) (by omega) (by omega) (by omega) (by omega) (by rw [hq1]; omega)
    rw [hq1, e1] at this
    exact this)
  have HW2 : Hid (∀ W : World, Rd W (some ⟨g, o + p, none⟩) (q1 ++ (q2 ++ s)) → Calls Try.prog 20 #[.slice (some ⟨g, o + p, none⟩) 40 (c - p), .int .i64 4, .int .i64 4] W fun e w' => e = .returned (.tuple #[.int .i64 (xb : Int), .int .i64 0]) ∧ W = w') := Lib.hid (fun W h => by
    have := take_ok g (o + p) 40 (c - p) 4 4 (q1 ++ (q2 ++ s)) W hml h (by omega) (by omega) (by omega) (by omega) (by omega) (by omega) (by rw [hq2]; omega)
    rw [hq2, e2] at this
    exact this)
  have HRG : Hid (∀ W : World, Rd W (some ⟨g, o + p, none⟩) (q1 ++ (q2 ++ s)) → W.rangeAt g (o + p + 8) (s.map B)) := Lib.hid (fun W h j v hj => by
    rw [List.getElem?_map] at hj
    obtain ⟨u, hu, rfl⟩ := Option.map_eq_some_iff.1 hj
    obtain ⟨hjl, rfl⟩ := List.getElem?_eq_some_iff.1 hu
    obtain ⟨a, ea, hca⟩ := h (8 + j) (by omega)
    obtain rfl := Option.some.inj ea
    rw [add_form] at hca
    rw [Nat.add_assoc, hca, List.getElem_append_right (by omega), List.getElem_append_right (by omega)]
    simp [h1, h2, show 8 + j - 4 - 4 = j by omega])
  have HIS : Hid ((Try.prog.info? 24).map (·.size) = some (s.map B).length) := Lib.hid (by rw [info32a, List.length_map, hs])
  have HBT := Lib.hid (built_p2 s hs)
  have HIP : Hid ((Try.prog.info? 26).map (·.size) = some (PC 0 0 s).toArray.size) := Lib.hid (by rw [info_p, List.size_toArray, PC_length, hs])
  have HZP : Hid (ZERO.size = (PC 0 0 s).toArray.size) := Lib.hid ((show ZERO.size = 34 from rfl).trans (by rw [List.size_toArray, PC_length, hs]))
  have HPO : Hid ((PC 0 0 s).toArray.all (·.oneCell') = true) := Lib.hid (by simp [PC, B, Value.oneCell'])
  have hat : ∀ W : World, (Instr.arrayAt 24 (.slice (some ⟨g, o + p + 8, none⟩) 32 (c - p - 8))).run Try.prog W = .ok (.pointer (some ⟨g, o + p + 8, none⟩)) W := fun W => by
    simp [Instr.arrayAt, run_underlying Try.underlying24]
  have HR0 : Hid (Bk (w.alloc (.cells ZERO 26)) w.heap.size ZERO 26) := Lib.hid (Bk.new w _)
  have HF0 : Hid (Fr0 w (w.alloc (.cells ZERO 26))) := Lib.hid (Fr.alloc (Fr.refl _ _) _)
  have HD0 : Hid (Rd (w.alloc (.cells ZERO 26)) (some ⟨g, o + p, none⟩) (q1 ++ (q2 ++ s))) := Lib.hid (hrd.later HF0.out (fun _ _ h => h))
  have HRG0 := Lib.hid (HRG.out _ HD0.out)
  have hwfa : (Lit.int .i64 (-1)).wf = true := by decide
  have hwfb : (Lit.int .i64 ((xb : Int))).wf = true := by simp [Lit.wf, IntKind.min, IntKind.max, IntKind.signed, IntKind.bits]; omega
  have HRI : Hid (∀ W : World, Calls Try.prog 31 #[.agg (PC (-1) ((xb : Int)) s).toArray] W fun e w' => e = .returned (.bool (rightB (-1) ((xb : Int)) s)) ∧ Fr0 W w') := Lib.hid (fun W => right_calls (-1) ((xb : Int)) s W hs hwfa hwfb)
  have HIQ : Hid ((Try.prog.info? 26).map (·.size) = some (PC (-1) ((xb : Int)) s).toArray.size) := Lib.hid (by rw [info_p, List.size_toArray, PC_length, hs])
  have HZQ : Hid (ZERO.size = (PC (-1) ((xb : Int)) s).toArray.size) := Lib.hid ((show ZERO.size = 34 from rfl).trans (by rw [List.size_toArray, PC_length, hs]))
  have HQO : Hid ((PC (-1) ((xb : Int)) s).toArray.all (·.oneCell') = true) := Lib.hid (by simp [PC, B, Value.oneCell'])
  have hs1 : (w.alloc (.cells ZERO 26)).heap.size = w.heap.size + 1 := by simp
  have HP1 : Hid (Bk ((w.alloc (.cells ZERO 26)).alloc (.cells ZERO 26)) (w.heap.size + 1) ZERO 26) := Lib.hid (by have := Bk.new (w.alloc (.cells ZERO 26)) (.cells ZERO 26); rwa [hs1] at this)
  have HP2 : Hid (Bk (((w.alloc (.cells ZERO 26)).alloc (.cells ZERO 26)).setRow (w.heap.size + 1) (PC 0 0 s).toArray) (w.heap.size + 1) (PC 0 0 s).toArray 26) := Lib.hid (ArrKit.Bk.row HP1.out _)
  have HR2 : Hid (Bk (((w.alloc (.cells ZERO 26)).alloc (.cells ZERO 26)).setRow (w.heap.size + 1) (PC 0 0 s).toArray) w.heap.size ZERO 26) := Lib.hid (ArrKit.Bk.rowOther (Bk.alloc HR0.out _) _ (by omega))
  have HF2 : Hid (Fr0 w (((w.alloc (.cells ZERO 26)).alloc (.cells ZERO 26)).setRow (w.heap.size + 1) (PC 0 0 s).toArray)) := Lib.hid (ArrKit.Fr.row (Fr.alloc HF0.out _) _ _ (.inl (by omega)))
  have HD2 : Hid (Rd (((w.alloc (.cells ZERO 26)).alloc (.cells ZERO 26)).setRow (w.heap.size + 1) (PC 0 0 s).toArray) (some ⟨g, o + p, none⟩) (q1 ++ (q2 ++ s))) := Lib.hid (hrd.later HF2.out (fun _ _ h => h))
  clear hs1
  clear hml hx1 hx2 hq1 hq2 e1 e2 hrd h1 h2 hs
  generalize hqq : q1 ++ (q2 ++ s) = m at *
  clear hqq
  generalize rightB (-1) ((xb : Int)) s = r at *
  go_enter Try.func19, Try.ntmps19
  go_wp2_with (first | (go_at_call 32; (with_reducible refine (pcut_ok g o n c p _ hc hcm hn hr).mono ?_); rintro e w1 ⟨rfl, rfl⟩) | (refine wpList_load_mid rfl 24 _ rfl g (o + p + 8) rfl (s.map B) _ HRG0.out Try.underlying24 rfl HIS.out ?_) | (refine PtrROf.build_ev rfl 26 #[(2, .tmp 25)] rfl [(2, .agg (s.map B).toArray)] (by simp [Act.eval, Act.put]) (PC 0 0 s).toArray HBT.out ?_) | (refine wpList_store_row rfl 26 _ _ rfl (w.heap.size + 1) (PC 0 0 s).toArray rfl rfl 26 ZERO HP1.out HIP.out HZP.out HPO.out ?_; change wpList _ _ _ _ _ (((w.alloc (.cells ZERO 26)).alloc (.cells ZERO 26)).setRow (w.heap.size + 1) (PC 0 0 s).toArray); generalize ((w.alloc (.cells ZERO 26)).alloc (.cells ZERO 26)).setRow (w.heap.size + 1) (PC 0 0 s).toArray = w2 at *))
  have hHg : w.heap.size + 1 ≠ g := by omega
  have hHr : w.heap.size + 1 ≠ w.heap.size := by omega
  have hwH : w.heap.size ≤ w.heap.size + 1 := by omega
  generalize w.heap.size + 1 = H at *
  have hi0 : ∀ W, (Instr.index 63 (.agg #[.pointer (some ⟨H, 0, none⟩), .pointer (some ⟨H, 1, none⟩)]) (.int .i64 0)).run Try.prog W = .ok (.pointer (some ⟨H, 0, none⟩)) W := fun W => index_arr (k := 0) W Try.underlying63 (e := 62) (by kernel_rfl) (by kernel_rfl) (by omega) rfl
  have hi1 : ∀ W, (Instr.index 63 (.agg #[.pointer (some ⟨H, 0, none⟩), .pointer (some ⟨H, 1, none⟩)]) (.int .i64 1)).run Try.prog W = .ok (.pointer (some ⟨H, 1, none⟩)) W := fun W => index_arr (k := 1) W Try.underlying63 (e := 62) (by kernel_rfl) (by kernel_rfl) (by omega) rfl
  have hp0 : w2.cell? ⟨H, 0, none⟩ = some (.int .i64 0) := Bk.cell HP2.out 0
  have hz0 : w2.frozen? ⟨H, 0, none⟩ = false := Bk.free HP2.out 0
  refine wp_loop_rounds 3 ?_
  rw [rounds_succ]
  go_wp2_with (first | (go_at_call 20; (with_reducible refine (HW1.out _ HD2.out).mono ?_); rintro e w3 ⟨rfl, rfl⟩))
  have HP4 := Lib.hid (HP2.out.set 0 (.int .i64 (-1)))
  have HR4 : Hid (Bk (w2.setCell ⟨H, 0, none⟩ (.int .i64 (-1))) w.heap.size ZERO 26) := Lib.hid (Bk.setOther HR2.out _ _ (Ne.symm hHr))
  have HF4 : Hid (Fr0 w (w2.setCell ⟨H, 0, none⟩ (.int .i64 (-1)))) := Lib.hid (Fr.set HF2.out _ _ (.inl hwH))
  have HD4 : Hid (Rd (w2.setCell ⟨H, 0, none⟩ (.int .i64 (-1))) (some ⟨g, o + p, none⟩) m) := Lib.hid (HD2.out.later (S := fun i => i = H) (Fr.set (Fr.refl _ _) _ _ (.inr rfl)) (fun a e => by obtain rfl := Option.some.inj e; exact Ne.symm hHg))
  clear hp0 hz0
  generalize w2.setCell ⟨H, 0, none⟩ (.int .i64 (-1)) = w4 at *
  have hp1 : w4.cell? ⟨H, 1, none⟩ = some (.int .i64 0) := (Bk.cell HP4.out 1).trans rfl
  have hz1 : w4.frozen? ⟨H, 1, none⟩ = false := Bk.free HP4.out 1
  rw [rounds_succ]
  go_wp2_with (first | (go_at_call 20; (with_reducible refine (HW2.out _ HD4.out).mono ?_); rintro e w5 ⟨rfl, rfl⟩))
  have HP6 : Hid (Bk (w4.setCell ⟨H, 1, none⟩ (.int .i64 ((xb : Int)))) H (PC (-1) ((xb : Int)) s).toArray 26) := Lib.hid (HP4.out.set 1 (.int .i64 ((xb : Int))))
  have HR6 : Hid (Bk (w4.setCell ⟨H, 1, none⟩ (.int .i64 ((xb : Int)))) w.heap.size ZERO 26) := Lib.hid (Bk.setOther HR4.out _ _ (Ne.symm hHr))
  have HF6 : Hid (Fr0 w (w4.setCell ⟨H, 1, none⟩ (.int .i64 ((xb : Int))))) := Lib.hid (Fr.set HF4.out _ _ (.inl hwH))
  clear hp1 hz1
  generalize w4.setCell ⟨H, 1, none⟩ (.int .i64 ((xb : Int))) = w6 at *
  rw [rounds_succ]
  clear hi0 hi1 hat
  cases r with
  | false =>
    go_wp2_with (first | (refine wpList_load_row rfl 26 _ rfl H rfl 26 (PC (-1) ((xb : Int)) s).toArray (0, 0) _ HP6.out Try.underlying26 rfl HIQ.out ?_) | (go_at_call 31; (with_reducible refine (HRI.out _).mono ?_); rintro e w7 ⟨rfl, hf7⟩; have HF7 := Lib.hid (HF6.out.then0 hf7); have HP7 := Lib.hid (hf7.keep HP6.out (fun h => h)); have HR7 := Lib.hid (hf7.keep HR6.out (fun h => h)); clear hf7) | (refine PtrAsk.build_eq rfl 26 _ rfl ZERO (by kernel_rfl) ?_) | (refine wpList_store_row rfl 26 _ _ rfl w.heap.size ZERO rfl rfl 26 ZERO HR7.out info_p rfl ZERO_one ?_))
    refine fin_ct w.heap.size 26 ZERO (.int .i64 15) (by rfl) (by rfl) (by rfl) (by rfl) Try.underlying26 (by rfl) info_p (ArrKit.Bk.row HR7.out _) ?_
    exact ⟨rfl, ArrKit.Fr.row HF7.out _ _ (.inl (Nat.le_refl _))⟩
  | true =>
    go_wp2_with (first | (refine wpList_load_row rfl 26 _ rfl H rfl 26 (PC (-1) ((xb : Int)) s).toArray (0, 0) _ HP6.out Try.underlying26 rfl HIQ.out ?_) | (go_at_call 31; (with_reducible refine (HRI.out _).mono ?_); rintro e w7 ⟨rfl, hf7⟩; have HF7 := Lib.hid (HF6.out.then0 hf7); have HP7 := Lib.hid (hf7.keep HP6.out (fun h => h)); have HR7 := Lib.hid (hf7.keep HR6.out (fun h => h)); clear hf7) | (refine wpList_load_row rfl 26 _ rfl H rfl 26 (PC (-1) ((xb : Int)) s).toArray (0, 0) _ HP7.out Try.underlying26 rfl HIQ.out ?_) | (refine wpList_store_row rfl 26 _ _ rfl w.heap.size (PC (-1) ((xb : Int)) s).toArray rfl rfl 26 ZERO HR7.out HIQ.out HZQ.out HQO.out ?_))
    refine fin_ct w.heap.size 26 (PC (-1) ((xb : Int)) s).toArray (.int .i64 0) (by rfl) (by rfl) (by rfl) (by rfl) Try.underlying26 (by rfl) HIQ.out (ArrKit.Bk.row HR7.out _) ?_
    exact ⟨rfl, ArrKit.Fr.row HF7.out _ _ (.inl (Nat.le_refl _))⟩

set_option maxHeartbeats 2000000 in
set_option maxRecDepth 100000 in
theorem take_sn (g o n c p : Nat) (xa : Nat) (hxa : xa ≠ 4294967295) (q1 q2 s : List UInt8) (w : World) (h1 : q1.length = 4) (h2 : q2.length = 4) (hs : s.length = 32) (e1 : num q1 = xa) (e2 : num q2 = (4294967295 : Nat)) (hrd : Rd w (some ⟨g, o + p, none⟩) (q1 ++ (q2 ++ s))) (hc : n ≤ c) (hcm : c ≤ 9223372036854775807) (hn : n ≤ 140737488351232) (hr : p + 40 ≤ n) :
    Calls Try.prog 19 #[.slice (some ⟨g, o, none⟩) n c, .int .i64 p] w fun e w' => e = .returned (if rightB ((xa : Int)) (-1) s then .tuple #[.agg (PC ((xa : Int)) (-1) s).toArray, .int .i64 0] else .tuple #[.agg ZERO, .int .i64 15]) ∧ Fr0 w w' := by
  have cxa : ((xa : Int) == 4294967295) = false := by rw [beq_eq_false_iff_ne]; omega
  have hc8 : c - p ≠ 8 := by omega
  have hcp : (8 : Int) ≤ ((c - p : Nat) : Int) := by omega
  have hml : (q1 ++ (q2 ++ s)).length = 40 := by simp [h1, h2, hs]
  have hx1 : num q1 < 4294967296 := by have := num_lt q1; rw [h1] at this; simpa using this
  have hx2 : num q2 < 4294967296 := by have := num_lt q2; rw [h2] at this; simpa using this
  have hq1 : ((q1 ++ (q2 ++ s)).drop 0).take 4 = q1 := by rw [List.drop_zero, List.take_left' h1]
  have hq2 : ((q1 ++ (q2 ++ s)).drop 4).take 4 = q2 := by rw [List.drop_left' h1, List.take_left' h2]
  have hgw : g < w.heap.size := by
    obtain ⟨b, o', e, hb, -⟩ := hrd.form (by omega)
    simp only [Option.some.injEq, Addr.mk.injEq] at e
    rw [e.1]; exact hb
  have HW1 : Hid (∀ W : World, Rd W (some ⟨g, o + p, none⟩) (q1 ++ (q2 ++ s)) → Calls Try.prog 20 #[.slice (some ⟨g, o + p, none⟩) 40 (c - p), .int .i64 0, .int .i64 4] W fun e w' => e = .returned (.tuple #[.int .i64 (xa : Int), .int .i64 0]) ∧ W = w') := Lib.hid (fun W h => by
    have := take_ok g (o + p) 40 (c - p) 0 4 (q1 ++ (q2 ++ s)) W hml h (by omega) (by omega) (by omega) (by omega) (by omega) (by omega) (by rw [hq1]; omega)
    rw [hq1, e1] at this
    exact this)
  have HW2 : Hid (∀ W : World, Rd W (some ⟨g, o + p, none⟩) (q1 ++ (q2 ++ s)) → Calls Try.prog 20 #[.slice (some ⟨g, o + p, none⟩) 40 (c - p), .int .i64 4, .int .i64 4] W fun e w' => e = .returned (.tuple #[.int .i64 4294967295, .int .i64 0]) ∧ W = w') := Lib.hid (fun W h => by
    have := take_ok g (o + p) 40 (c - p) 4 4 (q1 ++ (q2 ++ s)) W hml h (by omega) (by omega) (by omega) (by omega) (by omega) (by omega) (by rw [hq2]; omega)
    rw [hq2, e2] at this
    exact this)
  have HRG : Hid (∀ W : World, Rd W (some ⟨g, o + p, none⟩) (q1 ++ (q2 ++ s)) → W.rangeAt g (o + p + 8) (s.map B)) := Lib.hid (fun W h j v hj => by
    rw [List.getElem?_map] at hj
    obtain ⟨u, hu, rfl⟩ := Option.map_eq_some_iff.1 hj
    obtain ⟨hjl, rfl⟩ := List.getElem?_eq_some_iff.1 hu
    obtain ⟨a, ea, hca⟩ := h (8 + j) (by omega)
    obtain rfl := Option.some.inj ea
    rw [add_form] at hca
    rw [Nat.add_assoc, hca, List.getElem_append_right (by omega), List.getElem_append_right (by omega)]
    simp [h1, h2, show 8 + j - 4 - 4 = j by omega])
  have HIS : Hid ((Try.prog.info? 24).map (·.size) = some (s.map B).length) := Lib.hid (by rw [info32a, List.length_map, hs])
  have HBT := Lib.hid (built_p2 s hs)
  have HIP : Hid ((Try.prog.info? 26).map (·.size) = some (PC 0 0 s).toArray.size) := Lib.hid (by rw [info_p, List.size_toArray, PC_length, hs])
  have HZP : Hid (ZERO.size = (PC 0 0 s).toArray.size) := Lib.hid ((show ZERO.size = 34 from rfl).trans (by rw [List.size_toArray, PC_length, hs]))
  have HPO : Hid ((PC 0 0 s).toArray.all (·.oneCell') = true) := Lib.hid (by simp [PC, B, Value.oneCell'])
  have hat : ∀ W : World, (Instr.arrayAt 24 (.slice (some ⟨g, o + p + 8, none⟩) 32 (c - p - 8))).run Try.prog W = .ok (.pointer (some ⟨g, o + p + 8, none⟩)) W := fun W => by
    simp [Instr.arrayAt, run_underlying Try.underlying24]
  have HR0 : Hid (Bk (w.alloc (.cells ZERO 26)) w.heap.size ZERO 26) := Lib.hid (Bk.new w _)
  have HF0 : Hid (Fr0 w (w.alloc (.cells ZERO 26))) := Lib.hid (Fr.alloc (Fr.refl _ _) _)
  have HD0 : Hid (Rd (w.alloc (.cells ZERO 26)) (some ⟨g, o + p, none⟩) (q1 ++ (q2 ++ s))) := Lib.hid (hrd.later HF0.out (fun _ _ h => h))
  have HRG0 := Lib.hid (HRG.out _ HD0.out)
  have hwfa : (Lit.int .i64 ((xa : Int))).wf = true := by simp [Lit.wf, IntKind.min, IntKind.max, IntKind.signed, IntKind.bits]; omega
  have hwfb : (Lit.int .i64 (-1)).wf = true := by decide
  have HRI : Hid (∀ W : World, Calls Try.prog 31 #[.agg (PC ((xa : Int)) (-1) s).toArray] W fun e w' => e = .returned (.bool (rightB ((xa : Int)) (-1) s)) ∧ Fr0 W w') := Lib.hid (fun W => right_calls ((xa : Int)) (-1) s W hs hwfa hwfb)
  have HIQ : Hid ((Try.prog.info? 26).map (·.size) = some (PC ((xa : Int)) (-1) s).toArray.size) := Lib.hid (by rw [info_p, List.size_toArray, PC_length, hs])
  have HZQ : Hid (ZERO.size = (PC ((xa : Int)) (-1) s).toArray.size) := Lib.hid ((show ZERO.size = 34 from rfl).trans (by rw [List.size_toArray, PC_length, hs]))
  have HQO : Hid ((PC ((xa : Int)) (-1) s).toArray.all (·.oneCell') = true) := Lib.hid (by simp [PC, B, Value.oneCell'])
  have hs1 : (w.alloc (.cells ZERO 26)).heap.size = w.heap.size + 1 := by simp
  have HP1 : Hid (Bk ((w.alloc (.cells ZERO 26)).alloc (.cells ZERO 26)) (w.heap.size + 1) ZERO 26) := Lib.hid (by have := Bk.new (w.alloc (.cells ZERO 26)) (.cells ZERO 26); rwa [hs1] at this)
  have HP2 : Hid (Bk (((w.alloc (.cells ZERO 26)).alloc (.cells ZERO 26)).setRow (w.heap.size + 1) (PC 0 0 s).toArray) (w.heap.size + 1) (PC 0 0 s).toArray 26) := Lib.hid (ArrKit.Bk.row HP1.out _)
  have HR2 : Hid (Bk (((w.alloc (.cells ZERO 26)).alloc (.cells ZERO 26)).setRow (w.heap.size + 1) (PC 0 0 s).toArray) w.heap.size ZERO 26) := Lib.hid (ArrKit.Bk.rowOther (Bk.alloc HR0.out _) _ (by omega))
  have HF2 : Hid (Fr0 w (((w.alloc (.cells ZERO 26)).alloc (.cells ZERO 26)).setRow (w.heap.size + 1) (PC 0 0 s).toArray)) := Lib.hid (ArrKit.Fr.row (Fr.alloc HF0.out _) _ _ (.inl (by omega)))
  have HD2 : Hid (Rd (((w.alloc (.cells ZERO 26)).alloc (.cells ZERO 26)).setRow (w.heap.size + 1) (PC 0 0 s).toArray) (some ⟨g, o + p, none⟩) (q1 ++ (q2 ++ s))) := Lib.hid (hrd.later HF2.out (fun _ _ h => h))
  clear hs1
  clear hml hx1 hx2 hq1 hq2 e1 e2 hrd h1 h2 hs
  generalize hqq : q1 ++ (q2 ++ s) = m at *
  clear hqq
  generalize rightB ((xa : Int)) (-1) s = r at *
  go_enter Try.func19, Try.ntmps19
  go_wp2_with (first | (go_at_call 32; (with_reducible refine (pcut_ok g o n c p _ hc hcm hn hr).mono ?_); rintro e w1 ⟨rfl, rfl⟩) | (refine wpList_load_mid rfl 24 _ rfl g (o + p + 8) rfl (s.map B) _ HRG0.out Try.underlying24 rfl HIS.out ?_) | (refine PtrROf.build_ev rfl 26 #[(2, .tmp 25)] rfl [(2, .agg (s.map B).toArray)] (by simp [Act.eval, Act.put]) (PC 0 0 s).toArray HBT.out ?_) | (refine wpList_store_row rfl 26 _ _ rfl (w.heap.size + 1) (PC 0 0 s).toArray rfl rfl 26 ZERO HP1.out HIP.out HZP.out HPO.out ?_; change wpList _ _ _ _ _ (((w.alloc (.cells ZERO 26)).alloc (.cells ZERO 26)).setRow (w.heap.size + 1) (PC 0 0 s).toArray); generalize ((w.alloc (.cells ZERO 26)).alloc (.cells ZERO 26)).setRow (w.heap.size + 1) (PC 0 0 s).toArray = w2 at *))
  have hHg : w.heap.size + 1 ≠ g := by omega
  have hHr : w.heap.size + 1 ≠ w.heap.size := by omega
  have hwH : w.heap.size ≤ w.heap.size + 1 := by omega
  generalize w.heap.size + 1 = H at *
  have hi0 : ∀ W, (Instr.index 63 (.agg #[.pointer (some ⟨H, 0, none⟩), .pointer (some ⟨H, 1, none⟩)]) (.int .i64 0)).run Try.prog W = .ok (.pointer (some ⟨H, 0, none⟩)) W := fun W => index_arr (k := 0) W Try.underlying63 (e := 62) (by kernel_rfl) (by kernel_rfl) (by omega) rfl
  have hi1 : ∀ W, (Instr.index 63 (.agg #[.pointer (some ⟨H, 0, none⟩), .pointer (some ⟨H, 1, none⟩)]) (.int .i64 1)).run Try.prog W = .ok (.pointer (some ⟨H, 1, none⟩)) W := fun W => index_arr (k := 1) W Try.underlying63 (e := 62) (by kernel_rfl) (by kernel_rfl) (by omega) rfl
  have hp0 : w2.cell? ⟨H, 0, none⟩ = some (.int .i64 0) := Bk.cell HP2.out 0
  have hz0 : w2.frozen? ⟨H, 0, none⟩ = false := Bk.free HP2.out 0
  refine wp_loop_rounds 3 ?_
  rw [rounds_succ]
  go_wp2_with (first | (go_at_call 20; (with_reducible refine (HW1.out _ HD2.out).mono ?_); rintro e w3 ⟨rfl, rfl⟩))
  have HP4 := Lib.hid (HP2.out.set 0 (.int .i64 ((xa : Int))))
  have HR4 : Hid (Bk (w2.setCell ⟨H, 0, none⟩ (.int .i64 ((xa : Int)))) w.heap.size ZERO 26) := Lib.hid (Bk.setOther HR2.out _ _ (Ne.symm hHr))
  have HF4 : Hid (Fr0 w (w2.setCell ⟨H, 0, none⟩ (.int .i64 ((xa : Int))))) := Lib.hid (Fr.set HF2.out _ _ (.inl hwH))
  have HD4 : Hid (Rd (w2.setCell ⟨H, 0, none⟩ (.int .i64 ((xa : Int)))) (some ⟨g, o + p, none⟩) m) := Lib.hid (HD2.out.later (S := fun i => i = H) (Fr.set (Fr.refl _ _) _ _ (.inr rfl)) (fun a e => by obtain rfl := Option.some.inj e; exact Ne.symm hHg))
  clear hp0 hz0
  generalize w2.setCell ⟨H, 0, none⟩ (.int .i64 ((xa : Int))) = w4 at *
  have hp1 : w4.cell? ⟨H, 1, none⟩ = some (.int .i64 0) := (Bk.cell HP4.out 1).trans rfl
  have hz1 : w4.frozen? ⟨H, 1, none⟩ = false := Bk.free HP4.out 1
  rw [rounds_succ]
  go_wp2_with (first | (go_at_call 20; (with_reducible refine (HW2.out _ HD4.out).mono ?_); rintro e w5 ⟨rfl, rfl⟩))
  have HP6 : Hid (Bk (w4.setCell ⟨H, 1, none⟩ (.int .i64 (-1))) H (PC ((xa : Int)) (-1) s).toArray 26) := Lib.hid (HP4.out.set 1 (.int .i64 (-1)))
  have HR6 : Hid (Bk (w4.setCell ⟨H, 1, none⟩ (.int .i64 (-1))) w.heap.size ZERO 26) := Lib.hid (Bk.setOther HR4.out _ _ (Ne.symm hHr))
  have HF6 : Hid (Fr0 w (w4.setCell ⟨H, 1, none⟩ (.int .i64 (-1)))) := Lib.hid (Fr.set HF4.out _ _ (.inl hwH))
  clear hp1 hz1
  generalize w4.setCell ⟨H, 1, none⟩ (.int .i64 (-1)) = w6 at *
  rw [rounds_succ]
  clear hi0 hi1 hat
  cases r with
  | false =>
    go_wp2_with (first | (refine wpList_load_row rfl 26 _ rfl H rfl 26 (PC ((xa : Int)) (-1) s).toArray (0, 0) _ HP6.out Try.underlying26 rfl HIQ.out ?_) | (go_at_call 31; (with_reducible refine (HRI.out _).mono ?_); rintro e w7 ⟨rfl, hf7⟩; have HF7 := Lib.hid (HF6.out.then0 hf7); have HP7 := Lib.hid (hf7.keep HP6.out (fun h => h)); have HR7 := Lib.hid (hf7.keep HR6.out (fun h => h)); clear hf7) | (refine PtrAsk.build_eq rfl 26 _ rfl ZERO (by kernel_rfl) ?_) | (refine wpList_store_row rfl 26 _ _ rfl w.heap.size ZERO rfl rfl 26 ZERO HR7.out info_p rfl ZERO_one ?_))
    refine fin_ct w.heap.size 26 ZERO (.int .i64 15) (by rfl) (by rfl) (by rfl) (by rfl) Try.underlying26 (by rfl) info_p (ArrKit.Bk.row HR7.out _) ?_
    exact ⟨rfl, ArrKit.Fr.row HF7.out _ _ (.inl (Nat.le_refl _))⟩
  | true =>
    go_wp2_with (first | (refine wpList_load_row rfl 26 _ rfl H rfl 26 (PC ((xa : Int)) (-1) s).toArray (0, 0) _ HP6.out Try.underlying26 rfl HIQ.out ?_) | (go_at_call 31; (with_reducible refine (HRI.out _).mono ?_); rintro e w7 ⟨rfl, hf7⟩; have HF7 := Lib.hid (HF6.out.then0 hf7); have HP7 := Lib.hid (hf7.keep HP6.out (fun h => h)); have HR7 := Lib.hid (hf7.keep HR6.out (fun h => h)); clear hf7) | (refine wpList_load_row rfl 26 _ rfl H rfl 26 (PC ((xa : Int)) (-1) s).toArray (0, 0) _ HP7.out Try.underlying26 rfl HIQ.out ?_) | (refine wpList_store_row rfl 26 _ _ rfl w.heap.size (PC ((xa : Int)) (-1) s).toArray rfl rfl 26 ZERO HR7.out HIQ.out HZQ.out HQO.out ?_))
    refine fin_ct w.heap.size 26 (PC ((xa : Int)) (-1) s).toArray (.int .i64 0) (by rfl) (by rfl) (by rfl) (by rfl) Try.underlying26 (by rfl) HIQ.out (ArrKit.Bk.row HR7.out _) ?_
    exact ⟨rfl, ArrKit.Fr.row HF7.out _ _ (.inl (Nat.le_refl _))⟩

set_option maxHeartbeats 2000000 in
set_option maxRecDepth 100000 in
theorem take_ss (g o n c p : Nat) (xa : Nat) (hxa : xa ≠ 4294967295) (xb : Nat) (hxb : xb ≠ 4294967295) (q1 q2 s : List UInt8) (w : World) (h1 : q1.length = 4) (h2 : q2.length = 4) (hs : s.length = 32) (e1 : num q1 = xa) (e2 : num q2 = xb) (hrd : Rd w (some ⟨g, o + p, none⟩) (q1 ++ (q2 ++ s))) (hc : n ≤ c) (hcm : c ≤ 9223372036854775807) (hn : n ≤ 140737488351232) (hr : p + 40 ≤ n) :
    Calls Try.prog 19 #[.slice (some ⟨g, o, none⟩) n c, .int .i64 p] w fun e w' => e = .returned (if rightB ((xa : Int)) ((xb : Int)) s then .tuple #[.agg (PC ((xa : Int)) ((xb : Int)) s).toArray, .int .i64 0] else .tuple #[.agg ZERO, .int .i64 15]) ∧ Fr0 w w' := by
  have cxa : ((xa : Int) == 4294967295) = false := by rw [beq_eq_false_iff_ne]; omega
  have cxb : ((xb : Int) == 4294967295) = false := by rw [beq_eq_false_iff_ne]; omega
  have hc8 : c - p ≠ 8 := by omega
  have hcp : (8 : Int) ≤ ((c - p : Nat) : Int) := by omega
  have hml : (q1 ++ (q2 ++ s)).length = 40 := by simp [h1, h2, hs]
  have hx1 : num q1 < 4294967296 := by have := num_lt q1; rw [h1] at this; simpa using this
  have hx2 : num q2 < 4294967296 := by have := num_lt q2; rw [h2] at this; simpa using this
  have hq1 : ((q1 ++ (q2 ++ s)).drop 0).take 4 = q1 := by rw [List.drop_zero, List.take_left' h1]
  have hq2 : ((q1 ++ (q2 ++ s)).drop 4).take 4 = q2 := by rw [List.drop_left' h1, List.take_left' h2]
  have hgw : g < w.heap.size := by
    obtain ⟨b, o', e, hb, -⟩ := hrd.form (by omega)
    simp only [Option.some.injEq, Addr.mk.injEq] at e
    rw [e.1]; exact hb
  have HW1 : Hid (∀ W : World, Rd W (some ⟨g, o + p, none⟩) (q1 ++ (q2 ++ s)) → Calls Try.prog 20 #[.slice (some ⟨g, o + p, none⟩) 40 (c - p), .int .i64 0, .int .i64 4] W fun e w' => e = .returned (.tuple #[.int .i64 (xa : Int), .int .i64 0]) ∧ W = w') := Lib.hid (fun W h => by
    have := take_ok g (o + p) 40 (c - p) 0 4 (q1 ++ (q2 ++ s)) W hml h (by omega) (by omega) (by omega) (by omega) (by omega) (by omega) (by rw [hq1]; omega)
    rw [hq1, e1] at this
    exact this)
  have HW2 : Hid (∀ W : World, Rd W (some ⟨g, o + p, none⟩) (q1 ++ (q2 ++ s)) → Calls Try.prog 20 #[.slice (some ⟨g, o + p, none⟩) 40 (c - p), .int .i64 4, .int .i64 4] W fun e w' => e = .returned (.tuple #[.int .i64 (xb : Int), .int .i64 0]) ∧ W = w') := Lib.hid (fun W h => by
    have := take_ok g (o + p) 40 (c - p) 4 4 (q1 ++ (q2 ++ s)) W hml h (by omega) (by omega) (by omega) (by omega) (by omega) (by omega) (by rw [hq2]; omega)
    rw [hq2, e2] at this
    exact this)
  have HRG : Hid (∀ W : World, Rd W (some ⟨g, o + p, none⟩) (q1 ++ (q2 ++ s)) → W.rangeAt g (o + p + 8) (s.map B)) := Lib.hid (fun W h j v hj => by
    rw [List.getElem?_map] at hj
    obtain ⟨u, hu, rfl⟩ := Option.map_eq_some_iff.1 hj
    obtain ⟨hjl, rfl⟩ := List.getElem?_eq_some_iff.1 hu
    obtain ⟨a, ea, hca⟩ := h (8 + j) (by omega)
    obtain rfl := Option.some.inj ea
    rw [add_form] at hca
    rw [Nat.add_assoc, hca, List.getElem_append_right (by omega), List.getElem_append_right (by omega)]
    simp [h1, h2, show 8 + j - 4 - 4 = j by omega])
  have HIS : Hid ((Try.prog.info? 24).map (·.size) = some (s.map B).length) := Lib.hid (by rw [info32a, List.length_map, hs])
  have HBT := Lib.hid (built_p2 s hs)
  have HIP : Hid ((Try.prog.info? 26).map (·.size) = some (PC 0 0 s).toArray.size) := Lib.hid (by rw [info_p, List.size_toArray, PC_length, hs])
  have HZP : Hid (ZERO.size = (PC 0 0 s).toArray.size) := Lib.hid ((show ZERO.size = 34 from rfl).trans (by rw [List.size_toArray, PC_length, hs]))
  have HPO : Hid ((PC 0 0 s).toArray.all (·.oneCell') = true) := Lib.hid (by simp [PC, B, Value.oneCell'])
  have hat : ∀ W : World, (Instr.arrayAt 24 (.slice (some ⟨g, o + p + 8, none⟩) 32 (c - p - 8))).run Try.prog W = .ok (.pointer (some ⟨g, o + p + 8, none⟩)) W := fun W => by
    simp [Instr.arrayAt, run_underlying Try.underlying24]
  have HR0 : Hid (Bk (w.alloc (.cells ZERO 26)) w.heap.size ZERO 26) := Lib.hid (Bk.new w _)
  have HF0 : Hid (Fr0 w (w.alloc (.cells ZERO 26))) := Lib.hid (Fr.alloc (Fr.refl _ _) _)
  have HD0 : Hid (Rd (w.alloc (.cells ZERO 26)) (some ⟨g, o + p, none⟩) (q1 ++ (q2 ++ s))) := Lib.hid (hrd.later HF0.out (fun _ _ h => h))
  have HRG0 := Lib.hid (HRG.out _ HD0.out)
  have hwfa : (Lit.int .i64 ((xa : Int))).wf = true := by simp [Lit.wf, IntKind.min, IntKind.max, IntKind.signed, IntKind.bits]; omega
  have hwfb : (Lit.int .i64 ((xb : Int))).wf = true := by simp [Lit.wf, IntKind.min, IntKind.max, IntKind.signed, IntKind.bits]; omega
  have HRI : Hid (∀ W : World, Calls Try.prog 31 #[.agg (PC ((xa : Int)) ((xb : Int)) s).toArray] W fun e w' => e = .returned (.bool (rightB ((xa : Int)) ((xb : Int)) s)) ∧ Fr0 W w') := Lib.hid (fun W => right_calls ((xa : Int)) ((xb : Int)) s W hs hwfa hwfb)
  have HIQ : Hid ((Try.prog.info? 26).map (·.size) = some (PC ((xa : Int)) ((xb : Int)) s).toArray.size) := Lib.hid (by rw [info_p, List.size_toArray, PC_length, hs])
  have HZQ : Hid (ZERO.size = (PC ((xa : Int)) ((xb : Int)) s).toArray.size) := Lib.hid ((show ZERO.size = 34 from rfl).trans (by rw [List.size_toArray, PC_length, hs]))
  have HQO : Hid ((PC ((xa : Int)) ((xb : Int)) s).toArray.all (·.oneCell') = true) := Lib.hid (by simp [PC, B, Value.oneCell'])
  have hs1 : (w.alloc (.cells ZERO 26)).heap.size = w.heap.size + 1 := by simp
  have HP1 : Hid (Bk ((w.alloc (.cells ZERO 26)).alloc (.cells ZERO 26)) (w.heap.size + 1) ZERO 26) := Lib.hid (by have := Bk.new (w.alloc (.cells ZERO 26)) (.cells ZERO 26); rwa [hs1] at this)
  have HP2 : Hid (Bk (((w.alloc (.cells ZERO 26)).alloc (.cells ZERO 26)).setRow (w.heap.size + 1) (PC 0 0 s).toArray) (w.heap.size + 1) (PC 0 0 s).toArray 26) := Lib.hid (ArrKit.Bk.row HP1.out _)
  have HR2 : Hid (Bk (((w.alloc (.cells ZERO 26)).alloc (.cells ZERO 26)).setRow (w.heap.size + 1) (PC 0 0 s).toArray) w.heap.size ZERO 26) := Lib.hid (ArrKit.Bk.rowOther (Bk.alloc HR0.out _) _ (by omega))
  have HF2 : Hid (Fr0 w (((w.alloc (.cells ZERO 26)).alloc (.cells ZERO 26)).setRow (w.heap.size + 1) (PC 0 0 s).toArray)) := Lib.hid (ArrKit.Fr.row (Fr.alloc HF0.out _) _ _ (.inl (by omega)))
  have HD2 : Hid (Rd (((w.alloc (.cells ZERO 26)).alloc (.cells ZERO 26)).setRow (w.heap.size + 1) (PC 0 0 s).toArray) (some ⟨g, o + p, none⟩) (q1 ++ (q2 ++ s))) := Lib.hid (hrd.later HF2.out (fun _ _ h => h))
  clear hs1
  clear hml hx1 hx2 hq1 hq2 e1 e2 hrd h1 h2 hs
  generalize hqq : q1 ++ (q2 ++ s) = m at *
  clear hqq
  generalize rightB ((xa : Int)) ((xb : Int)) s = r at *
  go_enter Try.func19, Try.ntmps19
  go_wp2_with (first | (go_at_call 32; (with_reducible refine (pcut_ok g o n c p _ hc hcm hn hr).mono ?_); rintro e w1 ⟨rfl, rfl⟩) | (refine wpList_load_mid rfl 24 _ rfl g (o + p + 8) rfl (s.map B) _ HRG0.out Try.underlying24 rfl HIS.out ?_) | (refine PtrROf.build_ev rfl 26 #[(2, .tmp 25)] rfl [(2, .agg (s.map B).toArray)] (by simp [Act.eval, Act.put]) (PC 0 0 s).toArray HBT.out ?_) | (refine wpList_store_row rfl 26 _ _ rfl (w.heap.size + 1) (PC 0 0 s).toArray rfl rfl 26 ZERO HP1.out HIP.out HZP.out HPO.out ?_; change wpList _ _ _ _ _ (((w.alloc (.cells ZERO 26)).alloc (.cells ZERO 26)).setRow (w.heap.size + 1) (PC 0 0 s).toArray); generalize ((w.alloc (.cells ZERO 26)).alloc (.cells ZERO 26)).setRow (w.heap.size + 1) (PC 0 0 s).toArray = w2 at *))
  have hHg : w.heap.size + 1 ≠ g := by omega
  have hHr : w.heap.size + 1 ≠ w.heap.size := by omega
  have hwH : w.heap.size ≤ w.heap.size + 1 := by omega
  generalize w.heap.size + 1 = H at *
  have hi0 : ∀ W, (Instr.index 63 (.agg #[.pointer (some ⟨H, 0, none⟩), .pointer (some ⟨H, 1, none⟩)]) (.int .i64 0)).run Try.prog W = .ok (.pointer (some ⟨H, 0, none⟩)) W := fun W => index_arr (k := 0) W Try.underlying63 (e := 62) (by kernel_rfl) (by kernel_rfl) (by omega) rfl
  have hi1 : ∀ W, (Instr.index 63 (.agg #[.pointer (some ⟨H, 0, none⟩), .pointer (some ⟨H, 1, none⟩)]) (.int .i64 1)).run Try.prog W = .ok (.pointer (some ⟨H, 1, none⟩)) W := fun W => index_arr (k := 1) W Try.underlying63 (e := 62) (by kernel_rfl) (by kernel_rfl) (by omega) rfl
  have hp0 : w2.cell? ⟨H, 0, none⟩ = some (.int .i64 0) := Bk.cell HP2.out 0
  have hz0 : w2.frozen? ⟨H, 0, none⟩ = false := Bk.free HP2.out 0
  refine wp_loop_rounds 3 ?_
  rw [rounds_succ]
  go_wp2_with (first | (go_at_call 20; (with_reducible refine (HW1.out _ HD2.out).mono ?_); rintro e w3 ⟨rfl, rfl⟩))
  have HP4 := Lib.hid (HP2.out.set 0 (.int .i64 ((xa : Int))))
  have HR4 : Hid (Bk (w2.setCell ⟨H, 0, none⟩ (.int .i64 ((xa : Int)))) w.heap.size ZERO 26) := Lib.hid (Bk.setOther HR2.out _ _ (Ne.symm hHr))
  have HF4 : Hid (Fr0 w (w2.setCell ⟨H, 0, none⟩ (.int .i64 ((xa : Int))))) := Lib.hid (Fr.set HF2.out _ _ (.inl hwH))
  have HD4 : Hid (Rd (w2.setCell ⟨H, 0, none⟩ (.int .i64 ((xa : Int)))) (some ⟨g, o + p, none⟩) m) := Lib.hid (HD2.out.later (S := fun i => i = H) (Fr.set (Fr.refl _ _) _ _ (.inr rfl)) (fun a e => by obtain rfl := Option.some.inj e; exact Ne.symm hHg))
  clear hp0 hz0
  generalize w2.setCell ⟨H, 0, none⟩ (.int .i64 ((xa : Int))) = w4 at *
  have hp1 : w4.cell? ⟨H, 1, none⟩ = some (.int .i64 0) := (Bk.cell HP4.out 1).trans rfl
  have hz1 : w4.frozen? ⟨H, 1, none⟩ = false := Bk.free HP4.out 1
  rw [rounds_succ]
  go_wp2_with (first | (go_at_call 20; (with_reducible refine (HW2.out _ HD4.out).mono ?_); rintro e w5 ⟨rfl, rfl⟩))
  have HP6 : Hid (Bk (w4.setCell ⟨H, 1, none⟩ (.int .i64 ((xb : Int)))) H (PC ((xa : Int)) ((xb : Int)) s).toArray 26) := Lib.hid (HP4.out.set 1 (.int .i64 ((xb : Int))))
  have HR6 : Hid (Bk (w4.setCell ⟨H, 1, none⟩ (.int .i64 ((xb : Int)))) w.heap.size ZERO 26) := Lib.hid (Bk.setOther HR4.out _ _ (Ne.symm hHr))
  have HF6 : Hid (Fr0 w (w4.setCell ⟨H, 1, none⟩ (.int .i64 ((xb : Int))))) := Lib.hid (Fr.set HF4.out _ _ (.inl hwH))
  clear hp1 hz1
  generalize w4.setCell ⟨H, 1, none⟩ (.int .i64 ((xb : Int))) = w6 at *
  rw [rounds_succ]
  clear hi0 hi1 hat
  cases r with
  | false =>
    go_wp2_with (first | (refine wpList_load_row rfl 26 _ rfl H rfl 26 (PC ((xa : Int)) ((xb : Int)) s).toArray (0, 0) _ HP6.out Try.underlying26 rfl HIQ.out ?_) | (go_at_call 31; (with_reducible refine (HRI.out _).mono ?_); rintro e w7 ⟨rfl, hf7⟩; have HF7 := Lib.hid (HF6.out.then0 hf7); have HP7 := Lib.hid (hf7.keep HP6.out (fun h => h)); have HR7 := Lib.hid (hf7.keep HR6.out (fun h => h)); clear hf7) | (refine PtrAsk.build_eq rfl 26 _ rfl ZERO (by kernel_rfl) ?_) | (refine wpList_store_row rfl 26 _ _ rfl w.heap.size ZERO rfl rfl 26 ZERO HR7.out info_p rfl ZERO_one ?_))
    refine fin_ct w.heap.size 26 ZERO (.int .i64 15) (by rfl) (by rfl) (by rfl) (by rfl) Try.underlying26 (by rfl) info_p (ArrKit.Bk.row HR7.out _) ?_
    exact ⟨rfl, ArrKit.Fr.row HF7.out _ _ (.inl (Nat.le_refl _))⟩
  | true =>
    go_wp2_with (first | (refine wpList_load_row rfl 26 _ rfl H rfl 26 (PC ((xa : Int)) ((xb : Int)) s).toArray (0, 0) _ HP6.out Try.underlying26 rfl HIQ.out ?_) | (go_at_call 31; (with_reducible refine (HRI.out _).mono ?_); rintro e w7 ⟨rfl, hf7⟩; have HF7 := Lib.hid (HF6.out.then0 hf7); have HP7 := Lib.hid (hf7.keep HP6.out (fun h => h)); have HR7 := Lib.hid (hf7.keep HR6.out (fun h => h)); clear hf7) | (refine wpList_load_row rfl 26 _ rfl H rfl 26 (PC ((xa : Int)) ((xb : Int)) s).toArray (0, 0) _ HP7.out Try.underlying26 rfl HIQ.out ?_) | (refine wpList_store_row rfl 26 _ _ rfl w.heap.size (PC ((xa : Int)) ((xb : Int)) s).toArray rfl rfl 26 ZERO HR7.out HIQ.out HZQ.out HQO.out ?_))
    refine fin_ct w.heap.size 26 (PC ((xa : Int)) ((xb : Int)) s).toArray (.int .i64 0) (by rfl) (by rfl) (by rfl) (by rfl) Try.underlying26 (by rfl) HIQ.out (ArrKit.Bk.row HR7.out _) ?_
    exact ⟨rfl, ArrKit.Fr.row HF7.out _ _ (.inl (Nat.le_refl _))⟩

/-- what 40 bytes say -/
def tkA (m : List UInt8) : Int := dec (num (m.take 4))
def tkB (m : List UInt8) : Int := dec (num ((m.drop 4).take 4))
def tkS (m : List UInt8) : List UInt8 := m.drop 8
def tkR (m : List UInt8) : Bool := rightB (tkA m) (tkB m) (tkS m)
def tkV (m : List UInt8) : Value := if tkR m then .tuple #[.agg (PC (tkA m) (tkB m) (tkS m)).toArray, .int .i64 0] else .tuple #[.agg ZERO, .int .i64 15]
theorem tkS_length (m : List UInt8) (hm : m.length = 40) : (tkS m).length = 32 := by simp [tkS, hm]
theorem split40 (m : List UInt8) (hm : m.length = 40) : m.take 4 ++ ((m.drop 4).take 4 ++ m.drop 8) = m := by
  have : m.drop 8 = (m.drop 4).drop 4 := by rw [List.drop_drop]
  rw [this, List.take_append_drop, List.take_append_drop]
/-- TAKE: what ptr.Take answers at a place that is there. -/
theorem take_some (g o n c p : Nat) (m : List UInt8) (w : World) (hm : m.length = 40) (hrd : Rd w (some ⟨g, o + p, none⟩) m) (hc : n ≤ c) (hcm : c ≤ 9223372036854775807) (hn : n ≤ 140737488351232) (hr : p + 40 ≤ n) :
    Calls Try.prog 19 #[.slice (some ⟨g, o, none⟩) n c, .int .i64 p] w fun e w' => e = .returned (tkV m) ∧ Fr0 w w' := by
  have l1 : (m.take 4).length = 4 := by simp [hm]
  have l2 : ((m.drop 4).take 4).length = 4 := by simp [hm]
  have l3 : (m.drop 8).length = 32 := by simp [hm]
  rw [← split40 m hm] at hrd
  unfold tkV tkR tkA tkB tkS dec
  by_cases e1 : num (m.take 4) = 4294967295
  · by_cases e2 : num ((m.drop 4).take 4) = 4294967295
    · rw [if_pos e1, if_pos e2]
      exact take_nn g o n c p _ _ _ w l1 l2 l3 e1 e2 hrd hc hcm hn hr
    · rw [if_pos e1, if_neg e2]
      exact take_ns g o n c p _ e2 _ _ _ w l1 l2 l3 e1 rfl hrd hc hcm hn hr
  · by_cases e2 : num ((m.drop 4).take 4) = 4294967295
    · rw [if_neg e1, if_pos e2]
      exact take_sn g o n c p _ e1 _ _ _ w l1 l2 l3 rfl e2 hrd hc hcm hn hr
    · rw [if_neg e1, if_neg e2]
      exact take_ss g o n c p _ e1 _ e2 _ _ _ w l1 l2 l3 rfl rfl hrd hc hcm hn hr

end Go.Proofs.Ytfjkbabeceaelaa.PtrTake
