/- The pointer at a place, as the reference takes it: the walk of lazaretref05.Take. -/
import Derived.Test.YtfjkbabeceaelaaPtrTake
import Derived.Test.YtfjkbabeceaelaaRefWord
import Derived.Test.YtfjkbabeceaelaaPtrRRight
set_option linter.unusedVariables false
set_option linter.unusedSimpArgs false
namespace Go.Proofs.Ytfjkbabeceaelaa.PtrRTake
open Go Go.RowKit Go.Proofs.Ytfjkbabeceaelaa.K Go.Proofs.Ytfjkbabeceaelaa.EqKit Go.Proofs.Ytfjkbabeceaelaa.PtrKit Go.Proofs.Ytfjkbabeceaelaa.ArrKit Go.Proofs.Ytfjkbabeceaelaa.HeldKit Go.Proofs.Ytfjkbabeceaelaa.PtrAsk Go.Proofs.Ytfjkbabeceaelaa.PtrRRight Go.Proofs.Ytfjkbabeceaelaa.ShaStep Go.Proofs.Ytfjkbabeceaelaa.ShaRef Go.Proofs.Ytfjkbabeceaelaa.ShaSum Go.Proofs.Ytfjkbabeceaelaa.PtrOf Go.Proofs.Ytfjkbabeceaelaa.WordPut Go.Proofs.Ytfjkbabeceaelaa.WordTake Go.Proofs.Ytfjkbabeceaelaa.PtrPut Go.Proofs.Ytfjkbabeceaelaa.PtrTake

set_option maxHeartbeats 2000000 in
set_option maxRecDepth 100000 in
theorem rtake_neg (A0 : Option Addr) (n c : Nat) (p : Int) (w : World) (hn : n ≤ 140737488351232) (h : p < 0) :
    Calls Try.prog 22 #[.slice A0 n c, .int .i64 p] w fun e w' => e = .returned (.tuple #[.agg ZERO, .int .i64 1]) ∧ Fr0 w w' := by
  have c0 : decide (p < 0) = true := decide_eq_true h
  have HN : Hid (Bk (w.alloc (.cells ZERO 26)) w.heap.size ZERO 26) := Lib.hid (Bk.new w _)
  go_enter Try.func22, Try.ntmps22
  go_wp2_with (first | (refine PtrAsk.build_eq rfl 26 _ rfl ZERO (by kernel_rfl) ?_) | (refine wpList_store_row rfl 26 _ _ rfl w.heap.size ZERO rfl rfl 26 ZERO HN.out info_p rfl ZERO_one ?_))
  refine fin_ct w.heap.size 26 ZERO (.int .i64 1) (by rfl) (by rfl) (by rfl) (by rfl) Try.underlying26 (by rfl) info_p (ArrKit.Bk.row HN.out _) ?_
  exact ⟨rfl, ArrKit.Fr.row (Fr.alloc (Fr.refl _ _) _) _ _ (.inl (Nat.le_refl _))⟩

set_option maxHeartbeats 2000000 in
set_option maxRecDepth 100000 in
theorem rtake_far (A0 : Option Addr) (n c : Nat) (p : Int) (w : World) (hn : n ≤ 140737488351232) (h : 0 ≤ p) (h1 : (n : Int) < p) :
    Calls Try.prog 22 #[.slice A0 n c, .int .i64 p] w fun e w' => e = .returned (.tuple #[.agg ZERO, .int .i64 1]) ∧ Fr0 w w' := by
  have c0 : decide (p < 0) = false := decide_eq_false (by omega)
  have c1 : decide ((n : Int) < p) = true := decide_eq_true h1
  have HN : Hid (Bk (w.alloc (.cells ZERO 26)) w.heap.size ZERO 26) := Lib.hid (Bk.new w _)
  go_enter Try.func22, Try.ntmps22
  go_wp2_with (first | (refine PtrAsk.build_eq rfl 26 _ rfl ZERO (by kernel_rfl) ?_) | (refine wpList_store_row rfl 26 _ _ rfl w.heap.size ZERO rfl rfl 26 ZERO HN.out info_p rfl ZERO_one ?_))
  refine fin_ct w.heap.size 26 ZERO (.int .i64 1) (by rfl) (by rfl) (by rfl) (by rfl) Try.underlying26 (by rfl) info_p (ArrKit.Bk.row HN.out _) ?_
  exact ⟨rfl, ArrKit.Fr.row (Fr.alloc (Fr.refl _ _) _) _ _ (.inl (Nat.le_refl _))⟩

set_option maxHeartbeats 2000000 in
set_option maxRecDepth 100000 in
theorem rtake_big (A0 : Option Addr) (n c : Nat) (p : Int) (w : World) (hn : n ≤ 140737488351232) (h : 0 ≤ p) (h1 : p ≤ n) (h2 : (n : Int) - p < 40) :
    Calls Try.prog 22 #[.slice A0 n c, .int .i64 p] w fun e w' => e = .returned (.tuple #[.agg ZERO, .int .i64 1]) ∧ Fr0 w w' := by
  have c0 : decide (p < 0) = false := decide_eq_false (by omega)
  have c1 : decide ((n : Int) < p) = false := decide_eq_false (by omega)
  have c2 : decide ((n : Int) - p < 40) = true := decide_eq_true h2
  have HN : Hid (Bk (w.alloc (.cells ZERO 26)) w.heap.size ZERO 26) := Lib.hid (Bk.new w _)
  go_enter Try.func22, Try.ntmps22
  go_wp2_with (first | (refine PtrAsk.build_eq rfl 26 _ rfl ZERO (by kernel_rfl) ?_) | (refine wpList_store_row rfl 26 _ _ rfl w.heap.size ZERO rfl rfl 26 ZERO HN.out info_p rfl ZERO_one ?_))
  refine fin_ct w.heap.size 26 ZERO (.int .i64 1) (by rfl) (by rfl) (by rfl) (by rfl) Try.underlying26 (by rfl) info_p (ArrKit.Bk.row HN.out _) ?_
  exact ⟨rfl, ArrKit.Fr.row (Fr.alloc (Fr.refl _ _) _) _ _ (.inl (Nat.le_refl _))⟩

theorem rtake_room (A0 : Option Addr) (n c : Nat) (p : Int) (w : World) (hn : n ≤ 140737488351232) (hr : NoRoom n p 40) :
    Calls Try.prog 22 #[.slice A0 n c, .int .i64 p] w fun e w' => e = .returned (.tuple #[.agg ZERO, .int .i64 1]) ∧ Fr0 w w' := by
  by_cases h1 : p < 0
  · exact rtake_neg A0 n c p w hn h1
  by_cases h2 : (n : Int) < p
  · exact rtake_far A0 n c p w hn (by omega) h2
  · exact rtake_big A0 n c p w hn (by omega) (by omega) (by rcases hr with h | h | h <;> omega)

set_option maxHeartbeats 2000000 in
set_option maxRecDepth 100000 in
theorem rtake_nn_false (g o n c p : Nat) (q1 q2 s : List UInt8) (w : World) (h1 : q1.length = 4) (h2 : q2.length = 4) (hs : s.length = 32) (e1 : num q1 = (4294967295 : Nat)) (e2 : num q2 = (4294967295 : Nat)) (hrd : Rd w (some ⟨g, o + p, none⟩) (q1 ++ (q2 ++ s))) (hc : n ≤ c) (hcm : c ≤ 9223372036854775807) (hn : n ≤ 140737488351232) (hr : p + 40 ≤ n) (hrv : rightB (-1) (-1) s = false) :
    Calls Try.prog 22 #[.slice (some ⟨g, o, none⟩) n c, .int .i64 p] w fun e w' => e = .returned (.tuple #[.agg ZERO, .int .i64 15]) ∧ Fr0 w w' := by
  have d0 : decide ((p : Int) < 0) = false := decide_eq_false (by omega)
  have d1 : decide (n < p) = false := decide_eq_false (by omega)
  have d2 : decide ((n : Int) - p < 40) = false := decide_eq_false (by omega)
  have hml : (q1 ++ (q2 ++ s)).length = 40 := by simp [h1, h2, hs]
  have hx1 : num q1 < 4294967296 := by have := num_lt q1; rw [h1] at this; simpa using this
  have hx2 : num q2 < 4294967296 := by have := num_lt q2; rw [h2] at this; simpa using this
  have hq1 : ((q1 ++ (q2 ++ s)).drop 0).take 4 = q1 := by rw [List.drop_zero, List.take_left' h1]
  have hq2 : ((q1 ++ (q2 ++ s)).drop 4).take 4 = q2 := by rw [List.drop_left' h1, List.take_left' h2]
  have hgw : g < w.heap.size := by
    obtain ⟨b, o', e, hb, -⟩ := hrd.form (by omega)
    simp only [Option.some.injEq, Addr.mk.injEq] at e
    rw [e.1]; exact hb
  have HW1 : Hid (∀ W : World, Rd W (some ⟨g, o + p, none⟩) (q1 ++ (q2 ++ s)) → Calls Try.prog 21 #[.slice (some ⟨g, o, none⟩) n c, .int .i64 p, .int .i64 4] W fun e w' => e = .returned (.tuple #[.int .i64 4294967295, .int .i64 0]) ∧ W = w') := Lib.hid (fun W h => by
    have hs1 := h.sub 0 4
    rw [hq1] at hs1
    have := RefWord.take_ok0 g o n c p 4 q1 W h1 hs1 (by omega) (by omega) (by omega) (by omega) (by omega) (by omega) (by omega)
    rw [e1] at this
    exact this)
  have HW2 : Hid (∀ W : World, Rd W (some ⟨g, o + p, none⟩) (q1 ++ (q2 ++ s)) → Calls Try.prog 21 #[.slice (some ⟨g, o, none⟩) n c, .int .i64 ((p : Int) + 4), .int .i64 4] W fun e w' => e = .returned (.tuple #[.int .i64 4294967295, .int .i64 0]) ∧ W = w') := Lib.hid (fun W h => by
    have hs1 := h.sub 4 4
    rw [hq2, Nat.add_assoc] at hs1
    have := RefWord.take_ok0 g o n c (p + 4) 4 q2 W h2 hs1 (by omega) (by omega) (by omega) (by omega) (by omega) (by omega) (by omega)
    rw [e2] at this
    simpa using this)
  have HSC : Hid (∀ W : World, Rd W (some ⟨g, o + p, none⟩) (q1 ++ (q2 ++ s)) → ∀ j (hj : j < s.length), W.cell? ⟨g, o + (p + 8 + j), none⟩ = some (B s[j])) := Lib.hid (fun W h j hjl => by
    obtain ⟨a, ea, hca⟩ := h (8 + j) (by omega)
    obtain rfl := Option.some.inj ea
    rw [add_form] at hca
    rw [show o + (p + 8 + j) = o + p + (8 + j) by omega, hca, List.getElem_append_right (by omega), List.getElem_append_right (by omega)]
    simp [h1, h2, show 8 + j - 4 - 4 = j by omega])
  have HSL := Lib.hid hs
  have hwfa : (Lit.int .i64 (-1)).wf = true := by decide
  have hwfb : (Lit.int .i64 (-1)).wf = true := by decide
  have HRI : Hid (∀ W : World, Calls Try.prog 35 #[.agg (PC (-1) (-1) s).toArray] W fun e w' => e = .returned (.bool false) ∧ Fr0 W w') := Lib.hid (fun W => by
    have := rright_calls (-1) (-1) s W hs hwfa hwfb
    rw [hrv] at this
    exact this)
  have HIQ : Hid ((Try.prog.info? 26).map (·.size) = some (PC (-1) (-1) s).toArray.size) := Lib.hid (by rw [info_p, List.size_toArray, PC_length, hs])
  have HZQ : Hid (ZERO.size = (PC (-1) (-1) s).toArray.size) := Lib.hid ((show ZERO.size = 34 from rfl).trans (by rw [List.size_toArray, PC_length, hs]))
  have HQO : Hid ((PC (-1) (-1) s).toArray.all (·.oneCell') = true) := Lib.hid (by simp [PC, B, Value.oneCell'])
  have HR0 : Hid (Bk (w.alloc (.cells ZERO 26)) w.heap.size ZERO 26) := Lib.hid (Bk.new w _)
  have HF0 : Hid (Fr0 w (w.alloc (.cells ZERO 26))) := Lib.hid (Fr.alloc (Fr.refl _ _) _)
  have HD0 : Hid (Rd (w.alloc (.cells ZERO 26)) (some ⟨g, o + p, none⟩) (q1 ++ (q2 ++ s))) := Lib.hid (hrd.later HF0.out (fun _ _ h => h))
  clear hml hx1 hx2 hq1 hq2 e1 e2 hrd h1 h2 hs hwfa hwfb
  generalize q1 ++ (q2 ++ s) = m at *
  clear hrv
  go_enter Try.func22, Try.ntmps22
  go_wp2_with fail
  have hs1 : (w.alloc (.cells ZERO 26)).heap.size = w.heap.size + 1 := by simp
  have HL1 : Hid (Bk ((w.alloc (.cells ZERO 26)).alloc (.cells #[.int .i64 0, .int .i64 0] 68)) (w.heap.size + 1) #[.int .i64 0, .int .i64 0] 68) := Lib.hid (by have := Bk.new (w.alloc (.cells ZERO 26)) (.cells #[.int .i64 0, .int .i64 0] 68); rwa [hs1] at this)
  have HR1 : Hid (Bk ((w.alloc (.cells ZERO 26)).alloc (.cells #[.int .i64 0, .int .i64 0] 68)) w.heap.size ZERO 26) := Lib.hid (Bk.alloc HR0.out _)
  have HF1 : Hid (Fr0 w ((w.alloc (.cells ZERO 26)).alloc (.cells #[.int .i64 0, .int .i64 0] 68))) := Lib.hid (Fr.alloc HF0.out _)
  have HD1 : Hid (Rd ((w.alloc (.cells ZERO 26)).alloc (.cells #[.int .i64 0, .int .i64 0] 68)) (some ⟨g, o + p, none⟩) m) := Lib.hid (HD0.out.later (S := fun _ => False) (Fr.alloc (Fr.refl _ _) _) (fun _ _ h => h))
  change Code.wp _ _ _ _ ((w.alloc (.cells ZERO 26)).alloc (.cells #[.int .i64 0, .int .i64 0] 68))
  have hHg : w.heap.size + 1 ≠ g := by omega
  have hHr : w.heap.size + 1 ≠ w.heap.size := by omega
  have hwH : w.heap.size ≤ w.heap.size + 1 := by omega
  clear hs1
  generalize (w.alloc (.cells ZERO 26)).alloc (.cells #[.int .i64 0, .int .i64 0] 68) = w1 at *
  generalize w.heap.size + 1 = H at *
  have l0 : w1.cell? ⟨H, 0, none⟩ = some (.int .i64 0) := Bk.cell HL1.out 0
  have z0 : w1.frozen? ⟨H, 0, none⟩ = false := Bk.free HL1.out 0
  refine wp_loop_rounds 3 ?_
  rw [rounds_succ]
  go_wp2_with (first | (go_at_call 21; (with_reducible refine (HW1.out _ HD1.out).mono ?_); rintro e w3 ⟨rfl, rfl⟩))
  have HL4 : Hid (Bk ((w1.setCell ⟨H, 0, none⟩ (.int .i64 (4294967295))).setCell ⟨H, 0, none⟩ (.int .i64 (-1))) H #[.int .i64 (-1), .int .i64 0] 68) := Lib.hid ((HL1.out.set 0 _).set 0 _)
  have HR4 : Hid (Bk ((w1.setCell ⟨H, 0, none⟩ (.int .i64 (4294967295))).setCell ⟨H, 0, none⟩ (.int .i64 (-1))) w.heap.size ZERO 26) := Lib.hid (Bk.setOther (Bk.setOther HR1.out _ _ (Ne.symm hHr)) _ _ (Ne.symm hHr))
  have HF4 : Hid (Fr0 w ((w1.setCell ⟨H, 0, none⟩ (.int .i64 (4294967295))).setCell ⟨H, 0, none⟩ (.int .i64 (-1)))) := Lib.hid (Fr.set (Fr.set HF1.out _ _ (.inl hwH)) _ _ (.inl hwH))
  have HD4 : Hid (Rd ((w1.setCell ⟨H, 0, none⟩ (.int .i64 (4294967295))).setCell ⟨H, 0, none⟩ (.int .i64 (-1))) (some ⟨g, o + p, none⟩) m) := Lib.hid (HD1.out.later (S := fun i => i = H) (Fr.set (Fr.set (Fr.refl (fun i => i = H) _) _ _ (.inr rfl)) _ _ (.inr rfl)) (fun a e => by obtain rfl := Option.some.inj e; exact Ne.symm hHg))
  clear l0 z0
  generalize (w1.setCell ⟨H, 0, none⟩ (.int .i64 (4294967295))).setCell ⟨H, 0, none⟩ (.int .i64 (-1)) = w4 at *
  have l1 : w4.cell? ⟨H, 1, none⟩ = some (.int .i64 0) := Bk.cell HL4.out 1
  have z1 : w4.frozen? ⟨H, 1, none⟩ = false := Bk.free HL4.out 1
  rw [rounds_succ]
  go_wp2_with (first | (go_at_call 21; (with_reducible refine (HW2.out _ HD4.out).mono ?_); rintro e w3 ⟨rfl, rfl⟩))
  have HL6 : Hid (Bk ((w4.setCell ⟨H, 1, none⟩ (.int .i64 (4294967295))).setCell ⟨H, 1, none⟩ (.int .i64 (-1))) H #[.int .i64 (-1), .int .i64 (-1)] 68) := Lib.hid ((HL4.out.set 1 _).set 1 _)
  have HR6 : Hid (Bk ((w4.setCell ⟨H, 1, none⟩ (.int .i64 (4294967295))).setCell ⟨H, 1, none⟩ (.int .i64 (-1))) w.heap.size ZERO 26) := Lib.hid (Bk.setOther (Bk.setOther HR4.out _ _ (Ne.symm hHr)) _ _ (Ne.symm hHr))
  have HF6 : Hid (Fr0 w ((w4.setCell ⟨H, 1, none⟩ (.int .i64 (4294967295))).setCell ⟨H, 1, none⟩ (.int .i64 (-1)))) := Lib.hid (Fr.set (Fr.set HF4.out _ _ (.inl hwH)) _ _ (.inl hwH))
  have HD6 : Hid (Rd ((w4.setCell ⟨H, 1, none⟩ (.int .i64 (4294967295))).setCell ⟨H, 1, none⟩ (.int .i64 (-1))) (some ⟨g, o + p, none⟩) m) := Lib.hid (HD4.out.later (S := fun i => i = H) (Fr.set (Fr.set (Fr.refl (fun i => i = H) _) _ _ (.inr rfl)) _ _ (.inr rfl)) (fun a e => by obtain rfl := Option.some.inj e; exact Ne.symm hHg))
  clear l1 z1
  generalize (w4.setCell ⟨H, 1, none⟩ (.int .i64 (4294967295))).setCell ⟨H, 1, none⟩ (.int .i64 (-1)) = w6 at *
  rw [rounds_succ]
  have m0 : w6.cell? ⟨H, 0, none⟩ = some (.int .i64 (-1)) := Bk.cell HL6.out 0
  have m1 : w6.cell? ⟨H, 1, none⟩ = some (.int .i64 (-1)) := Bk.cell HL6.out 1
  have HN6 : Hid (Bk (w6.alloc (.cells ZERO 26)) w6.heap.size ZERO 26) := Lib.hid (Bk.new _ _)
  have HYI : Hid ((Try.prog.info? 26).map (·.size) = some (YL (-1) (-1)).size) := Lib.hid info_p
  go_wp2_with (first | (refine wpList_store_row rfl 26 _ _ rfl w6.heap.size (YL (-1) (-1)) rfl rfl 26 ZERO HN6.out HYI.out rfl (YL_one (-1) (-1)) ?_; change wpList _ _ _ _ _ ((w6.alloc (.cells ZERO 26)).setRow w6.heap.size (YL (-1) (-1)))))
  have hwr := Bk.lt HR6.out
  have hgG : g < w6.heap.size := by omega
  have HP8 : Hid (Bk ((w6.alloc (.cells ZERO 26)).setRow w6.heap.size (YL (-1) (-1))) w6.heap.size (YL (-1) (-1)) 26) := Lib.hid (ArrKit.Bk.row HN6.out _)
  have HR8 : Hid (Bk ((w6.alloc (.cells ZERO 26)).setRow w6.heap.size (YL (-1) (-1))) w.heap.size ZERO 26) := Lib.hid (ArrKit.Bk.rowOther (Bk.alloc HR6.out _) _ (by omega))
  have HF8 : Hid (Fr0 w ((w6.alloc (.cells ZERO 26)).setRow w6.heap.size (YL (-1) (-1)))) := Lib.hid (ArrKit.Fr.row (Fr.alloc HF6.out _) _ _ (.inl (by omega)))
  have HD8 : Hid (Rd ((w6.alloc (.cells ZERO 26)).setRow w6.heap.size (YL (-1) (-1))) (some ⟨g, o + p, none⟩) m) := Lib.hid (HD6.out.later (S := fun i => i = w6.heap.size) (ArrKit.Fr.row (Fr.alloc (Fr.refl (fun i => i = w6.heap.size) _) _) _ _ (.inr rfl)) (fun a e => by obtain rfl := Option.some.inj e; exact Nat.ne_of_lt hgG))
  have hwG : w.heap.size ≤ w6.heap.size := Nat.le_of_lt hwr
  have hGr : w6.heap.size ≠ w.heap.size := by omega
  have HGG : Hid (g ≠ w6.heap.size) := Lib.hid (Nat.ne_of_lt hgG)
  clear m0 m1 HN6 HL6 HR6 HF6 HD6 hwr hgG
  generalize (w6.alloc (.cells ZERO 26)).setRow w6.heap.size (YL (-1) (-1)) = w8 at *
  generalize w6.heap.size = G at *
  have HLY : Hid (lay (YL (-1) (-1)) 2 (s.map B) = (PC (-1) (-1) s).toArray) := Lib.hid (lay_YL (-1) (-1) s HSL.out)
  have HYS : Hid ((YL (-1) (-1)).size = 34) := Lib.hid rfl
  generalize YL (-1) (-1) = bs at *
  have hbs : 34 ≤ bs.size := Nat.le_of_eq HYS.out.symm
  go_loopw [9] (fun u wr => ∃ k : Nat, k ≤ 32 ∧ u = .int .i64 k ∧ Bk wr G (lay bs 2 ((s.map B).take k)) 26 ∧ Bk wr w.heap.size ZERO 26 ∧ Rd wr (some ⟨g, o + p, none⟩) m ∧ Fr0 w wr) (fun u _ => 32 - (intOf u).toNat)
  case atStart => exact ⟨0, by omega, rfl, HP8.out, HR8.out, HD8.out, HF8.out⟩
  case round =>
    obtain ⟨k, hk, rfl, hbk, hrk, hdk, hfr⟩ := hrel
    have HBK := Lib.hid hbk
    have HRK := Lib.hid hrk
    have HDK := Lib.hid hdk
    have HFR := Lib.hid hfr
    have hlt0 : 2 + k < bs.size ∨ k = 32 := by omega
    clear hbk hrk hdk hfr
    by_cases hlt : k < 32
    · obtain ⟨v0, hv0⟩ : ∃ v0, wr.cell? ⟨G, 2 + k, none⟩ = some v0 := ⟨_, (HBK.out.cell _).trans (Array.getElem?_eq_getElem (by simp; omega))⟩
      have hfz := HBK.out.free (2 + k)
      obtain ⟨v, hv⟩ : ∃ v, (s.map B)[k]? = some (B v) ∧ s[k]'(by rw [HSL.out]; exact hlt) = v := ⟨s[k]'(by rw [HSL.out]; exact hlt), by rw [List.getElem?_map, List.getElem?_eq_getElem (by rw [HSL.out]; exact hlt)]; rfl, rfl⟩
      have hcs : wr.cell? ⟨g, o + (p + 8 + k), none⟩ = some (B v) := by rw [HSC.out wr HDK.out k (by rw [HSL.out]; exact hlt), hv.2]
      have HV := Lib.hid hv.1
      have hpk : (p : Int) + 8 + k < n := by omega
      have hvw : (0 : Int) ≤ (v.toNat : Int) := by omega
      have hvx : (v.toNat : Int) < 256 := by have := v.toNat_lt; omega
      simp only [B] at hcs
      have c9 : decide ((k : Int) < 32) = true := decide_eq_true (by omega)
      have c8 : (k : Int) < 32 := by omega
      have HLT := Lib.hid hlt
      clear hv hlt0 hbs hk hlt
      go_wp2
      have hkl : k < (s.map B).length := by have := HLT.out; rw [List.length_map, HSL.out]; exact this
      have hgl : (s.map B)[k] = .int .u8 (v.toNat : Int) := Option.some.inj ((List.getElem?_eq_getElem hkl).symm.trans HV.out)
      refine ⟨⟨k + 1, by have := HLT.out; omega, by go_num, ?_, Bk.setOther HRK.out _ _ (Ne.symm hGr), HDK.out.later (S := fun i => i = G) (Fr.set (Fr.refl (fun i => i = G) _) _ _ (.inr rfl)) (fun a e => by obtain rfl := Option.some.inj e; exact HGG.out), HFR.out.set _ _ (.inl hwG)⟩, by have := HLT.out; simp [intOf]; omega⟩
      rw [lay_take hkl, hgl]
      exact HBK.out.set _ _
    · have c9 : decide ((k : Int) < 32) = false := decide_eq_false (by omega)
      have HP9 : Hid (Bk wr G (PC (-1) (-1) s).toArray 26) := Lib.hid (by
        have := HBK.out
        have e : (s.map B).take k = s.map B := List.take_of_length_le (by rw [List.length_map, HSL.out]; omega)
        rw [e, HLY.out] at this
        exact this)
      clear hlt0 hlt hk HBK hbs
      go_wp2_with (first | (refine wpList_load_row rfl 26 _ rfl G rfl 26 (PC (-1) (-1) s).toArray (0, 0) _ HP9.out Try.underlying26 rfl HIQ.out ?_) | (go_at_call 35; (with_reducible refine (HRI.out _).mono ?_); rintro e w7 ⟨rfl, hf7⟩; have HF7 := Lib.hid (HFR.out.then0 hf7); have HP7 := Lib.hid (hf7.keep HP9.out (fun h => h)); have HR7 := Lib.hid (hf7.keep HRK.out (fun h => h)); clear hf7) | (refine PtrAsk.build_eq rfl 26 _ rfl ZERO (by kernel_rfl) ?_) | (refine wpList_store_row rfl 26 _ _ rfl w.heap.size ZERO rfl rfl 26 ZERO HR7.out info_p rfl ZERO_one ?_))
      refine fin_ct w.heap.size 26 ZERO (.int .i64 15) (by rfl) (by rfl) (by rfl) (by rfl) Try.underlying26 (by rfl) info_p (ArrKit.Bk.row HR7.out _) ?_
      exact ⟨rfl, ArrKit.Fr.row HF7.out _ _ (.inl (Nat.le_refl _))⟩

set_option maxHeartbeats 2000000 in
set_option maxRecDepth 100000 in
theorem rtake_nn_true (g o n c p : Nat) (q1 q2 s : List UInt8) (w : World) (h1 : q1.length = 4) (h2 : q2.length = 4) (hs : s.length = 32) (e1 : num q1 = (4294967295 : Nat)) (e2 : num q2 = (4294967295 : Nat)) (hrd : Rd w (some ⟨g, o + p, none⟩) (q1 ++ (q2 ++ s))) (hc : n ≤ c) (hcm : c ≤ 9223372036854775807) (hn : n ≤ 140737488351232) (hr : p + 40 ≤ n) (hrv : rightB (-1) (-1) s = true) :
    Calls Try.prog 22 #[.slice (some ⟨g, o, none⟩) n c, .int .i64 p] w fun e w' => e = .returned (.tuple #[.agg (PC (-1) (-1) s).toArray, .int .i64 0]) ∧ Fr0 w w' := by
  have d0 : decide ((p : Int) < 0) = false := decide_eq_false (by omega)
  have d1 : decide (n < p) = false := decide_eq_false (by omega)
  have d2 : decide ((n : Int) - p < 40) = false := decide_eq_false (by omega)
  have hml : (q1 ++ (q2 ++ s)).length = 40 := by simp [h1, h2, hs]
  have hx1 : num q1 < 4294967296 := by have := num_lt q1; rw [h1] at this; simpa using this
  have hx2 : num q2 < 4294967296 := by have := num_lt q2; rw [h2] at this; simpa using this
  have hq1 : ((q1 ++ (q2 ++ s)).drop 0).take 4 = q1 := by rw [List.drop_zero, List.take_left' h1]
  have hq2 : ((q1 ++ (q2 ++ s)).drop 4).take 4 = q2 := by rw [List.drop_left' h1, List.take_left' h2]
  have hgw : g < w.heap.size := by
    obtain ⟨b, o', e, hb, -⟩ := hrd.form (by omega)
    simp only [Option.some.injEq, Addr.mk.injEq] at e
    rw [e.1]; exact hb
  have HW1 : Hid (∀ W : World, Rd W (some ⟨g, o + p, none⟩) (q1 ++ (q2 ++ s)) → Calls Try.prog 21 #[.slice (some ⟨g, o, none⟩) n c, .int .i64 p, .int .i64 4] W fun e w' => e = .returned (.tuple #[.int .i64 4294967295, .int .i64 0]) ∧ W = w') := Lib.hid (fun W h => by
    have hs1 := h.sub 0 4
    rw [hq1] at hs1
    have := RefWord.take_ok0 g o n c p 4 q1 W h1 hs1 (by omega) (by omega) (by omega) (by omega) (by omega) (by omega) (by omega)
    rw [e1] at this
    exact this)
  have HW2 : Hid (∀ W : World, Rd W (some ⟨g, o + p, none⟩) (q1 ++ (q2 ++ s)) → Calls Try.prog 21 #[.slice (some ⟨g, o, none⟩) n c, .int .i64 ((p : Int) + 4), .int .i64 4] W fun e w' => e = .returned (.tuple #[.int .i64 4294967295, .int .i64 0]) ∧ W = w') := Lib.hid (fun W h => by
    have hs1 := h.sub 4 4
    rw [hq2, Nat.add_assoc] at hs1
    have := RefWord.take_ok0 g o n c (p + 4) 4 q2 W h2 hs1 (by omega) (by omega) (by omega) (by omega) (by omega) (by omega) (by omega)
    rw [e2] at this
    simpa using this)
  have HSC : Hid (∀ W : World, Rd W (some ⟨g, o + p, none⟩) (q1 ++ (q2 ++ s)) → ∀ j (hj : j < s.length), W.cell? ⟨g, o + (p + 8 + j), none⟩ = some (B s[j])) := Lib.hid (fun W h j hjl => by
    obtain ⟨a, ea, hca⟩ := h (8 + j) (by omega)
    obtain rfl := Option.some.inj ea
    rw [add_form] at hca
    rw [show o + (p + 8 + j) = o + p + (8 + j) by omega, hca, List.getElem_append_right (by omega), List.getElem_append_right (by omega)]
    simp [h1, h2, show 8 + j - 4 - 4 = j by omega])
  have HSL := Lib.hid hs
  have hwfa : (Lit.int .i64 (-1)).wf = true := by decide
  have hwfb : (Lit.int .i64 (-1)).wf = true := by decide
  have HRI : Hid (∀ W : World, Calls Try.prog 35 #[.agg (PC (-1) (-1) s).toArray] W fun e w' => e = .returned (.bool true) ∧ Fr0 W w') := Lib.hid (fun W => by
    have := rright_calls (-1) (-1) s W hs hwfa hwfb
    rw [hrv] at this
    exact this)
  have HIQ : Hid ((Try.prog.info? 26).map (·.size) = some (PC (-1) (-1) s).toArray.size) := Lib.hid (by rw [info_p, List.size_toArray, PC_length, hs])
  have HZQ : Hid (ZERO.size = (PC (-1) (-1) s).toArray.size) := Lib.hid ((show ZERO.size = 34 from rfl).trans (by rw [List.size_toArray, PC_length, hs]))
  have HQO : Hid ((PC (-1) (-1) s).toArray.all (·.oneCell') = true) := Lib.hid (by simp [PC, B, Value.oneCell'])
  have HR0 : Hid (Bk (w.alloc (.cells ZERO 26)) w.heap.size ZERO 26) := Lib.hid (Bk.new w _)
  have HF0 : Hid (Fr0 w (w.alloc (.cells ZERO 26))) := Lib.hid (Fr.alloc (Fr.refl _ _) _)
  have HD0 : Hid (Rd (w.alloc (.cells ZERO 26)) (some ⟨g, o + p, none⟩) (q1 ++ (q2 ++ s))) := Lib.hid (hrd.later HF0.out (fun _ _ h => h))
  clear hml hx1 hx2 hq1 hq2 e1 e2 hrd h1 h2 hs hwfa hwfb
  generalize q1 ++ (q2 ++ s) = m at *
  clear hrv
  go_enter Try.func22, Try.ntmps22
  go_wp2_with fail
  have hs1 : (w.alloc (.cells ZERO 26)).heap.size = w.heap.size + 1 := by simp
  have HL1 : Hid (Bk ((w.alloc (.cells ZERO 26)).alloc (.cells #[.int .i64 0, .int .i64 0] 68)) (w.heap.size + 1) #[.int .i64 0, .int .i64 0] 68) := Lib.hid (by have := Bk.new (w.alloc (.cells ZERO 26)) (.cells #[.int .i64 0, .int .i64 0] 68); rwa [hs1] at this)
  have HR1 : Hid (Bk ((w.alloc (.cells ZERO 26)).alloc (.cells #[.int .i64 0, .int .i64 0] 68)) w.heap.size ZERO 26) := Lib.hid (Bk.alloc HR0.out _)
  have HF1 : Hid (Fr0 w ((w.alloc (.cells ZERO 26)).alloc (.cells #[.int .i64 0, .int .i64 0] 68))) := Lib.hid (Fr.alloc HF0.out _)
  have HD1 : Hid (Rd ((w.alloc (.cells ZERO 26)).alloc (.cells #[.int .i64 0, .int .i64 0] 68)) (some ⟨g, o + p, none⟩) m) := Lib.hid (HD0.out.later (S := fun _ => False) (Fr.alloc (Fr.refl _ _) _) (fun _ _ h => h))
  change Code.wp _ _ _ _ ((w.alloc (.cells ZERO 26)).alloc (.cells #[.int .i64 0, .int .i64 0] 68))
  have hHg : w.heap.size + 1 ≠ g := by omega
  have hHr : w.heap.size + 1 ≠ w.heap.size := by omega
  have hwH : w.heap.size ≤ w.heap.size + 1 := by omega
  clear hs1
  generalize (w.alloc (.cells ZERO 26)).alloc (.cells #[.int .i64 0, .int .i64 0] 68) = w1 at *
  generalize w.heap.size + 1 = H at *
  have l0 : w1.cell? ⟨H, 0, none⟩ = some (.int .i64 0) := Bk.cell HL1.out 0
  have z0 : w1.frozen? ⟨H, 0, none⟩ = false := Bk.free HL1.out 0
  refine wp_loop_rounds 3 ?_
  rw [rounds_succ]
  go_wp2_with (first | (go_at_call 21; (with_reducible refine (HW1.out _ HD1.out).mono ?_); rintro e w3 ⟨rfl, rfl⟩))
  have HL4 : Hid (Bk ((w1.setCell ⟨H, 0, none⟩ (.int .i64 (4294967295))).setCell ⟨H, 0, none⟩ (.int .i64 (-1))) H #[.int .i64 (-1), .int .i64 0] 68) := Lib.hid ((HL1.out.set 0 _).set 0 _)
  have HR4 : Hid (Bk ((w1.setCell ⟨H, 0, none⟩ (.int .i64 (4294967295))).setCell ⟨H, 0, none⟩ (.int .i64 (-1))) w.heap.size ZERO 26) := Lib.hid (Bk.setOther (Bk.setOther HR1.out _ _ (Ne.symm hHr)) _ _ (Ne.symm hHr))
  have HF4 : Hid (Fr0 w ((w1.setCell ⟨H, 0, none⟩ (.int .i64 (4294967295))).setCell ⟨H, 0, none⟩ (.int .i64 (-1)))) := Lib.hid (Fr.set (Fr.set HF1.out _ _ (.inl hwH)) _ _ (.inl hwH))
  have HD4 : Hid (Rd ((w1.setCell ⟨H, 0, none⟩ (.int .i64 (4294967295))).setCell ⟨H, 0, none⟩ (.int .i64 (-1))) (some ⟨g, o + p, none⟩) m) := Lib.hid (HD1.out.later (S := fun i => i = H) (Fr.set (Fr.set (Fr.refl (fun i => i = H) _) _ _ (.inr rfl)) _ _ (.inr rfl)) (fun a e => by obtain rfl := Option.some.inj e; exact Ne.symm hHg))
  clear l0 z0
  generalize (w1.setCell ⟨H, 0, none⟩ (.int .i64 (4294967295))).setCell ⟨H, 0, none⟩ (.int .i64 (-1)) = w4 at *
  have l1 : w4.cell? ⟨H, 1, none⟩ = some (.int .i64 0) := Bk.cell HL4.out 1
  have z1 : w4.frozen? ⟨H, 1, none⟩ = false := Bk.free HL4.out 1
  rw [rounds_succ]
  go_wp2_with (first | (go_at_call 21; (with_reducible refine (HW2.out _ HD4.out).mono ?_); rintro e w3 ⟨rfl, rfl⟩))
  have HL6 : Hid (Bk ((w4.setCell ⟨H, 1, none⟩ (.int .i64 (4294967295))).setCell ⟨H, 1, none⟩ (.int .i64 (-1))) H #[.int .i64 (-1), .int .i64 (-1)] 68) := Lib.hid ((HL4.out.set 1 _).set 1 _)
  have HR6 : Hid (Bk ((w4.setCell ⟨H, 1, none⟩ (.int .i64 (4294967295))).setCell ⟨H, 1, none⟩ (.int .i64 (-1))) w.heap.size ZERO 26) := Lib.hid (Bk.setOther (Bk.setOther HR4.out _ _ (Ne.symm hHr)) _ _ (Ne.symm hHr))
  have HF6 : Hid (Fr0 w ((w4.setCell ⟨H, 1, none⟩ (.int .i64 (4294967295))).setCell ⟨H, 1, none⟩ (.int .i64 (-1)))) := Lib.hid (Fr.set (Fr.set HF4.out _ _ (.inl hwH)) _ _ (.inl hwH))
  have HD6 : Hid (Rd ((w4.setCell ⟨H, 1, none⟩ (.int .i64 (4294967295))).setCell ⟨H, 1, none⟩ (.int .i64 (-1))) (some ⟨g, o + p, none⟩) m) := Lib.hid (HD4.out.later (S := fun i => i = H) (Fr.set (Fr.set (Fr.refl (fun i => i = H) _) _ _ (.inr rfl)) _ _ (.inr rfl)) (fun a e => by obtain rfl := Option.some.inj e; exact Ne.symm hHg))
  clear l1 z1
  generalize (w4.setCell ⟨H, 1, none⟩ (.int .i64 (4294967295))).setCell ⟨H, 1, none⟩ (.int .i64 (-1)) = w6 at *
  rw [rounds_succ]
  have m0 : w6.cell? ⟨H, 0, none⟩ = some (.int .i64 (-1)) := Bk.cell HL6.out 0
  have m1 : w6.cell? ⟨H, 1, none⟩ = some (.int .i64 (-1)) := Bk.cell HL6.out 1
  have HN6 : Hid (Bk (w6.alloc (.cells ZERO 26)) w6.heap.size ZERO 26) := Lib.hid (Bk.new _ _)
  have HYI : Hid ((Try.prog.info? 26).map (·.size) = some (YL (-1) (-1)).size) := Lib.hid info_p
  go_wp2_with (first | (refine wpList_store_row rfl 26 _ _ rfl w6.heap.size (YL (-1) (-1)) rfl rfl 26 ZERO HN6.out HYI.out rfl (YL_one (-1) (-1)) ?_; change wpList _ _ _ _ _ ((w6.alloc (.cells ZERO 26)).setRow w6.heap.size (YL (-1) (-1)))))
  have hwr := Bk.lt HR6.out
  have hgG : g < w6.heap.size := by omega
  have HP8 : Hid (Bk ((w6.alloc (.cells ZERO 26)).setRow w6.heap.size (YL (-1) (-1))) w6.heap.size (YL (-1) (-1)) 26) := Lib.hid (ArrKit.Bk.row HN6.out _)
  have HR8 : Hid (Bk ((w6.alloc (.cells ZERO 26)).setRow w6.heap.size (YL (-1) (-1))) w.heap.size ZERO 26) := Lib.hid (ArrKit.Bk.rowOther (Bk.alloc HR6.out _) _ (by omega))
  have HF8 : Hid (Fr0 w ((w6.alloc (.cells ZERO 26)).setRow w6.heap.size (YL (-1) (-1)))) := Lib.hid (ArrKit.Fr.row (Fr.alloc HF6.out _) _ _ (.inl (by omega)))
  have HD8 : Hid (Rd ((w6.alloc (.cells ZERO 26)).setRow w6.heap.size (YL (-1) (-1))) (some ⟨g, o + p, none⟩) m) := Lib.hid (HD6.out.later (S := fun i => i = w6.heap.size) (ArrKit.Fr.row (Fr.alloc (Fr.refl (fun i => i = w6.heap.size) _) _) _ _ (.inr rfl)) (fun a e => by obtain rfl := Option.some.inj e; exact Nat.ne_of_lt hgG))
  have hwG : w.heap.size ≤ w6.heap.size := Nat.le_of_lt hwr
  have hGr : w6.heap.size ≠ w.heap.size := by omega
  have HGG : Hid (g ≠ w6.heap.size) := Lib.hid (Nat.ne_of_lt hgG)
  clear m0 m1 HN6 HL6 HR6 HF6 HD6 hwr hgG
  generalize (w6.alloc (.cells ZERO 26)).setRow w6.heap.size (YL (-1) (-1)) = w8 at *
  generalize w6.heap.size = G at *
  have HLY : Hid (lay (YL (-1) (-1)) 2 (s.map B) = (PC (-1) (-1) s).toArray) := Lib.hid (lay_YL (-1) (-1) s HSL.out)
  have HYS : Hid ((YL (-1) (-1)).size = 34) := Lib.hid rfl
  generalize YL (-1) (-1) = bs at *
  have hbs : 34 ≤ bs.size := Nat.le_of_eq HYS.out.symm
  go_loopw [9] (fun u wr => ∃ k : Nat, k ≤ 32 ∧ u = .int .i64 k ∧ Bk wr G (lay bs 2 ((s.map B).take k)) 26 ∧ Bk wr w.heap.size ZERO 26 ∧ Rd wr (some ⟨g, o + p, none⟩) m ∧ Fr0 w wr) (fun u _ => 32 - (intOf u).toNat)
  case atStart => exact ⟨0, by omega, rfl, HP8.out, HR8.out, HD8.out, HF8.out⟩
  case round =>
    obtain ⟨k, hk, rfl, hbk, hrk, hdk, hfr⟩ := hrel
    have HBK := Lib.hid hbk
    have HRK := Lib.hid hrk
    have HDK := Lib.hid hdk
    have HFR := Lib.hid hfr
    have hlt0 : 2 + k < bs.size ∨ k = 32 := by omega
    clear hbk hrk hdk hfr
    by_cases hlt : k < 32
    · obtain ⟨v0, hv0⟩ : ∃ v0, wr.cell? ⟨G, 2 + k, none⟩ = some v0 := ⟨_, (HBK.out.cell _).trans (Array.getElem?_eq_getElem (by simp; omega))⟩
      have hfz := HBK.out.free (2 + k)
      obtain ⟨v, hv⟩ : ∃ v, (s.map B)[k]? = some (B v) ∧ s[k]'(by rw [HSL.out]; exact hlt) = v := ⟨s[k]'(by rw [HSL.out]; exact hlt), by rw [List.getElem?_map, List.getElem?_eq_getElem (by rw [HSL.out]; exact hlt)]; rfl, rfl⟩
      have hcs : wr.cell? ⟨g, o + (p + 8 + k), none⟩ = some (B v) := by rw [HSC.out wr HDK.out k (by rw [HSL.out]; exact hlt), hv.2]
      have HV := Lib.hid hv.1
      have hpk : (p : Int) + 8 + k < n := by omega
      have hvw : (0 : Int) ≤ (v.toNat : Int) := by omega
      have hvx : (v.toNat : Int) < 256 := by have := v.toNat_lt; omega
      simp only [B] at hcs
      have c9 : decide ((k : Int) < 32) = true := decide_eq_true (by omega)
      have c8 : (k : Int) < 32 := by omega
      have HLT := Lib.hid hlt
      clear hv hlt0 hbs hk hlt
      go_wp2
      have hkl : k < (s.map B).length := by have := HLT.out; rw [List.length_map, HSL.out]; exact this
      have hgl : (s.map B)[k] = .int .u8 (v.toNat : Int) := Option.some.inj ((List.getElem?_eq_getElem hkl).symm.trans HV.out)
      refine ⟨⟨k + 1, by have := HLT.out; omega, by go_num, ?_, Bk.setOther HRK.out _ _ (Ne.symm hGr), HDK.out.later (S := fun i => i = G) (Fr.set (Fr.refl (fun i => i = G) _) _ _ (.inr rfl)) (fun a e => by obtain rfl := Option.some.inj e; exact HGG.out), HFR.out.set _ _ (.inl hwG)⟩, by have := HLT.out; simp [intOf]; omega⟩
      rw [lay_take hkl, hgl]
      exact HBK.out.set _ _
    · have c9 : decide ((k : Int) < 32) = false := decide_eq_false (by omega)
      have HP9 : Hid (Bk wr G (PC (-1) (-1) s).toArray 26) := Lib.hid (by
        have := HBK.out
        have e : (s.map B).take k = s.map B := List.take_of_length_le (by rw [List.length_map, HSL.out]; omega)
        rw [e, HLY.out] at this
        exact this)
      clear hlt0 hlt hk HBK hbs
      go_wp2_with (first | (refine wpList_load_row rfl 26 _ rfl G rfl 26 (PC (-1) (-1) s).toArray (0, 0) _ HP9.out Try.underlying26 rfl HIQ.out ?_) | (go_at_call 35; (with_reducible refine (HRI.out _).mono ?_); rintro e w7 ⟨rfl, hf7⟩; have HF7 := Lib.hid (HFR.out.then0 hf7); have HP7 := Lib.hid (hf7.keep HP9.out (fun h => h)); have HR7 := Lib.hid (hf7.keep HRK.out (fun h => h)); clear hf7) | (refine wpList_load_row rfl 26 _ rfl G rfl 26 (PC (-1) (-1) s).toArray (0, 0) _ HP7.out Try.underlying26 rfl HIQ.out ?_) | (refine wpList_store_row rfl 26 _ _ rfl w.heap.size (PC (-1) (-1) s).toArray rfl rfl 26 ZERO HR7.out HIQ.out HZQ.out HQO.out ?_))
      refine fin_ct w.heap.size 26 (PC (-1) (-1) s).toArray (.int .i64 0) (by rfl) (by rfl) (by rfl) (by rfl) Try.underlying26 (by rfl) HIQ.out (ArrKit.Bk.row HR7.out _) ?_
      exact ⟨rfl, ArrKit.Fr.row HF7.out _ _ (.inl (Nat.le_refl _))⟩

set_option maxHeartbeats 2000000 in
set_option maxRecDepth 100000 in
theorem rtake_ns_false (g o n c p : Nat) (xb : Nat) (hxb : xb ≠ 4294967295) (q1 q2 s : List UInt8) (w : World) (h1 : q1.length = 4) (h2 : q2.length = 4) (hs : s.length = 32) (e1 : num q1 = (4294967295 : Nat)) (e2 : num q2 = xb) (hrd : Rd w (some ⟨g, o + p, none⟩) (q1 ++ (q2 ++ s))) (hc : n ≤ c) (hcm : c ≤ 9223372036854775807) (hn : n ≤ 140737488351232) (hr : p + 40 ≤ n) (hrv : rightB (-1) ((xb : Int)) s = false) :
    Calls Try.prog 22 #[.slice (some ⟨g, o, none⟩) n c, .int .i64 p] w fun e w' => e = .returned (.tuple #[.agg ZERO, .int .i64 15]) ∧ Fr0 w w' := by
  have cxb : ((xb : Int) == 4294967295) = false := by rw [beq_eq_false_iff_ne]; omega
  have d0 : decide ((p : Int) < 0) = false := decide_eq_false (by omega)
  have d1 : decide (n < p) = false := decide_eq_false (by omega)
  have d2 : decide ((n : Int) - p < 40) = false := decide_eq_false (by omega)
  have hml : (q1 ++ (q2 ++ s)).length = 40 := by simp [h1, h2, hs]
  have hx1 : num q1 < 4294967296 := by have := num_lt q1; rw [h1] at this; simpa using this
  have hx2 : num q2 < 4294967296 := by have := num_lt q2; rw [h2] at this; simpa using this
  have hq1 : ((q1 ++ (q2 ++ s)).drop 0).take 4 = q1 := by rw [List.drop_zero, List.take_left' h1]
  have hq2 : ((q1 ++ (q2 ++ s)).drop 4).take 4 = q2 := by rw [List.drop_left' h1, List.take_left' h2]
  have hgw : g < w.heap.size := by
    obtain ⟨b, o', e, hb, -⟩ := hrd.form (by omega)
    simp only [Option.some.injEq, Addr.mk.injEq] at e
    rw [e.1]; exact hb
  have HW1 : Hid (∀ W : World, Rd W (some ⟨g, o + p, none⟩) (q1 ++ (q2 ++ s)) → Calls Try.prog 21 #[.slice (some ⟨g, o, none⟩) n c, .int .i64 p, .int .i64 4] W fun e w' => e = .returned (.tuple #[.int .i64 4294967295, .int .i64 0]) ∧ W = w') := Lib.hid (fun W h => by
    have hs1 := h.sub 0 4
    rw [hq1] at hs1
    have := RefWord.take_ok0 g o n c p 4 q1 W h1 hs1 (by omega) (by omega) (by omega) (by omega) (by omega) (by omega) (by omega)
    rw [e1] at this
    exact this)
  have HW2 : Hid (∀ W : World, Rd W (some ⟨g, o + p, none⟩) (q1 ++ (q2 ++ s)) → Calls Try.prog 21 #[.slice (some ⟨g, o, none⟩) n c, .int .i64 ((p : Int) + 4), .int .i64 4] W fun e w' => e = .returned (.tuple #[.int .i64 (xb : Int), .int .i64 0]) ∧ W = w') := Lib.hid (fun W h => by
    have hs1 := h.sub 4 4
    rw [hq2, Nat.add_assoc] at hs1
    have := RefWord.take_ok0 g o n c (p + 4) 4 q2 W h2 hs1 (by omega) (by omega) (by omega) (by omega) (by omega) (by omega) (by omega)
    rw [e2] at this
    simpa using this)
  have HSC : Hid (∀ W : World, Rd W (some ⟨g, o + p, none⟩) (q1 ++ (q2 ++ s)) → ∀ j (hj : j < s.length), W.cell? ⟨g, o + (p + 8 + j), none⟩ = some (B s[j])) := Lib.hid (fun W h j hjl => by
    obtain ⟨a, ea, hca⟩ := h (8 + j) (by omega)
    obtain rfl := Option.some.inj ea
    rw [add_form] at hca
    rw [show o + (p + 8 + j) = o + p + (8 + j) by omega, hca, List.getElem_append_right (by omega), List.getElem_append_right (by omega)]
    simp [h1, h2, show 8 + j - 4 - 4 = j by omega])
  have HSL := Lib.hid hs
  have hwfa : (Lit.int .i64 (-1)).wf = true := by decide
  have hwfb : (Lit.int .i64 ((xb : Int))).wf = true := by simp [Lit.wf, IntKind.min, IntKind.max, IntKind.signed, IntKind.bits]; omega
  have HRI : Hid (∀ W : World, Calls Try.prog 35 #[.agg (PC (-1) ((xb : Int)) s).toArray] W fun e w' => e = .returned (.bool false) ∧ Fr0 W w') := Lib.hid (fun W => by
    have := rright_calls (-1) ((xb : Int)) s W hs hwfa hwfb
    rw [hrv] at this
    exact this)
  have HIQ : Hid ((Try.prog.info? 26).map (·.size) = some (PC (-1) ((xb : Int)) s).toArray.size) := Lib.hid (by rw [info_p, List.size_toArray, PC_length, hs])
  have HZQ : Hid (ZERO.size = (PC (-1) ((xb : Int)) s).toArray.size) := Lib.hid ((show ZERO.size = 34 from rfl).trans (by rw [List.size_toArray, PC_length, hs]))
  have HQO : Hid ((PC (-1) ((xb : Int)) s).toArray.all (·.oneCell') = true) := Lib.hid (by simp [PC, B, Value.oneCell'])
  have HR0 : Hid (Bk (w.alloc (.cells ZERO 26)) w.heap.size ZERO 26) := Lib.hid (Bk.new w _)
  have HF0 : Hid (Fr0 w (w.alloc (.cells ZERO 26))) := Lib.hid (Fr.alloc (Fr.refl _ _) _)
  have HD0 : Hid (Rd (w.alloc (.cells ZERO 26)) (some ⟨g, o + p, none⟩) (q1 ++ (q2 ++ s))) := Lib.hid (hrd.later HF0.out (fun _ _ h => h))
  clear hml hx1 hx2 hq1 hq2 e1 e2 hrd h1 h2 hs hwfa hwfb
  generalize q1 ++ (q2 ++ s) = m at *
  clear hrv
  go_enter Try.func22, Try.ntmps22
  go_wp2_with fail
  have hs1 : (w.alloc (.cells ZERO 26)).heap.size = w.heap.size + 1 := by simp
  have HL1 : Hid (Bk ((w.alloc (.cells ZERO 26)).alloc (.cells #[.int .i64 0, .int .i64 0] 68)) (w.heap.size + 1) #[.int .i64 0, .int .i64 0] 68) := Lib.hid (by have := Bk.new (w.alloc (.cells ZERO 26)) (.cells #[.int .i64 0, .int .i64 0] 68); rwa [hs1] at this)
  have HR1 : Hid (Bk ((w.alloc (.cells ZERO 26)).alloc (.cells #[.int .i64 0, .int .i64 0] 68)) w.heap.size ZERO 26) := Lib.hid (Bk.alloc HR0.out _)
  have HF1 : Hid (Fr0 w ((w.alloc (.cells ZERO 26)).alloc (.cells #[.int .i64 0, .int .i64 0] 68))) := Lib.hid (Fr.alloc HF0.out _)
  have HD1 : Hid (Rd ((w.alloc (.cells ZERO 26)).alloc (.cells #[.int .i64 0, .int .i64 0] 68)) (some ⟨g, o + p, none⟩) m) := Lib.hid (HD0.out.later (S := fun _ => False) (Fr.alloc (Fr.refl _ _) _) (fun _ _ h => h))
  change Code.wp _ _ _ _ ((w.alloc (.cells ZERO 26)).alloc (.cells #[.int .i64 0, .int .i64 0] 68))
  have hHg : w.heap.size + 1 ≠ g := by omega
  have hHr : w.heap.size + 1 ≠ w.heap.size := by omega
  have hwH : w.heap.size ≤ w.heap.size + 1 := by omega
  clear hs1
  generalize (w.alloc (.cells ZERO 26)).alloc (.cells #[.int .i64 0, .int .i64 0] 68) = w1 at *
  generalize w.heap.size + 1 = H at *
  have l0 : w1.cell? ⟨H, 0, none⟩ = some (.int .i64 0) := Bk.cell HL1.out 0
  have z0 : w1.frozen? ⟨H, 0, none⟩ = false := Bk.free HL1.out 0
  refine wp_loop_rounds 3 ?_
  rw [rounds_succ]
  go_wp2_with (first | (go_at_call 21; (with_reducible refine (HW1.out _ HD1.out).mono ?_); rintro e w3 ⟨rfl, rfl⟩))
  have HL4 : Hid (Bk ((w1.setCell ⟨H, 0, none⟩ (.int .i64 (4294967295))).setCell ⟨H, 0, none⟩ (.int .i64 (-1))) H #[.int .i64 (-1), .int .i64 0] 68) := Lib.hid ((HL1.out.set 0 _).set 0 _)
  have HR4 : Hid (Bk ((w1.setCell ⟨H, 0, none⟩ (.int .i64 (4294967295))).setCell ⟨H, 0, none⟩ (.int .i64 (-1))) w.heap.size ZERO 26) := Lib.hid (Bk.setOther (Bk.setOther HR1.out _ _ (Ne.symm hHr)) _ _ (Ne.symm hHr))
  have HF4 : Hid (Fr0 w ((w1.setCell ⟨H, 0, none⟩ (.int .i64 (4294967295))).setCell ⟨H, 0, none⟩ (.int .i64 (-1)))) := Lib.hid (Fr.set (Fr.set HF1.out _ _ (.inl hwH)) _ _ (.inl hwH))
  have HD4 : Hid (Rd ((w1.setCell ⟨H, 0, none⟩ (.int .i64 (4294967295))).setCell ⟨H, 0, none⟩ (.int .i64 (-1))) (some ⟨g, o + p, none⟩) m) := Lib.hid (HD1.out.later (S := fun i => i = H) (Fr.set (Fr.set (Fr.refl (fun i => i = H) _) _ _ (.inr rfl)) _ _ (.inr rfl)) (fun a e => by obtain rfl := Option.some.inj e; exact Ne.symm hHg))
  clear l0 z0
  generalize (w1.setCell ⟨H, 0, none⟩ (.int .i64 (4294967295))).setCell ⟨H, 0, none⟩ (.int .i64 (-1)) = w4 at *
  have l1 : w4.cell? ⟨H, 1, none⟩ = some (.int .i64 0) := Bk.cell HL4.out 1
  have z1 : w4.frozen? ⟨H, 1, none⟩ = false := Bk.free HL4.out 1
  rw [rounds_succ]
  go_wp2_with (first | (go_at_call 21; (with_reducible refine (HW2.out _ HD4.out).mono ?_); rintro e w3 ⟨rfl, rfl⟩))
  have HL6 : Hid (Bk (w4.setCell ⟨H, 1, none⟩ (.int .i64 ((xb : Int)))) H #[.int .i64 (-1), .int .i64 ((xb : Int))] 68) := Lib.hid (HL4.out.set 1 _)
  have HR6 : Hid (Bk (w4.setCell ⟨H, 1, none⟩ (.int .i64 ((xb : Int)))) w.heap.size ZERO 26) := Lib.hid (Bk.setOther HR4.out _ _ (Ne.symm hHr))
  have HF6 : Hid (Fr0 w (w4.setCell ⟨H, 1, none⟩ (.int .i64 ((xb : Int))))) := Lib.hid (Fr.set HF4.out _ _ (.inl hwH))
  have HD6 : Hid (Rd (w4.setCell ⟨H, 1, none⟩ (.int .i64 ((xb : Int)))) (some ⟨g, o + p, none⟩) m) := Lib.hid (HD4.out.later (S := fun i => i = H) (Fr.set (Fr.refl (fun i => i = H) _) _ _ (.inr rfl)) (fun a e => by obtain rfl := Option.some.inj e; exact Ne.symm hHg))
  clear l1 z1
  generalize w4.setCell ⟨H, 1, none⟩ (.int .i64 ((xb : Int))) = w6 at *
  rw [rounds_succ]
  have m0 : w6.cell? ⟨H, 0, none⟩ = some (.int .i64 (-1)) := Bk.cell HL6.out 0
  have m1 : w6.cell? ⟨H, 1, none⟩ = some (.int .i64 ((xb : Int))) := Bk.cell HL6.out 1
  have HN6 : Hid (Bk (w6.alloc (.cells ZERO 26)) w6.heap.size ZERO 26) := Lib.hid (Bk.new _ _)
  have HYI : Hid ((Try.prog.info? 26).map (·.size) = some (YL (-1) ((xb : Int))).size) := Lib.hid info_p
  go_wp2_with (first | (refine wpList_store_row rfl 26 _ _ rfl w6.heap.size (YL (-1) ((xb : Int))) rfl rfl 26 ZERO HN6.out HYI.out rfl (YL_one (-1) ((xb : Int))) ?_; change wpList _ _ _ _ _ ((w6.alloc (.cells ZERO 26)).setRow w6.heap.size (YL (-1) ((xb : Int))))))
  have hwr := Bk.lt HR6.out
  have hgG : g < w6.heap.size := by omega
  have HP8 : Hid (Bk ((w6.alloc (.cells ZERO 26)).setRow w6.heap.size (YL (-1) ((xb : Int)))) w6.heap.size (YL (-1) ((xb : Int))) 26) := Lib.hid (ArrKit.Bk.row HN6.out _)
  have HR8 : Hid (Bk ((w6.alloc (.cells ZERO 26)).setRow w6.heap.size (YL (-1) ((xb : Int)))) w.heap.size ZERO 26) := Lib.hid (ArrKit.Bk.rowOther (Bk.alloc HR6.out _) _ (by omega))
  have HF8 : Hid (Fr0 w ((w6.alloc (.cells ZERO 26)).setRow w6.heap.size (YL (-1) ((xb : Int))))) := Lib.hid (ArrKit.Fr.row (Fr.alloc HF6.out _) _ _ (.inl (by omega)))
  have HD8 : Hid (Rd ((w6.alloc (.cells ZERO 26)).setRow w6.heap.size (YL (-1) ((xb : Int)))) (some ⟨g, o + p, none⟩) m) := Lib.hid (HD6.out.later (S := fun i => i = w6.heap.size) (ArrKit.Fr.row (Fr.alloc (Fr.refl (fun i => i = w6.heap.size) _) _) _ _ (.inr rfl)) (fun a e => by obtain rfl := Option.some.inj e; exact Nat.ne_of_lt hgG))
  have hwG : w.heap.size ≤ w6.heap.size := Nat.le_of_lt hwr
  have hGr : w6.heap.size ≠ w.heap.size := by omega
  have HGG : Hid (g ≠ w6.heap.size) := Lib.hid (Nat.ne_of_lt hgG)
  clear m0 m1 HN6 HL6 HR6 HF6 HD6 hwr hgG
  generalize (w6.alloc (.cells ZERO 26)).setRow w6.heap.size (YL (-1) ((xb : Int))) = w8 at *
  generalize w6.heap.size = G at *
  have HLY : Hid (lay (YL (-1) ((xb : Int))) 2 (s.map B) = (PC (-1) ((xb : Int)) s).toArray) := Lib.hid (lay_YL (-1) ((xb : Int)) s HSL.out)
  have HYS : Hid ((YL (-1) ((xb : Int))).size = 34) := Lib.hid rfl
  generalize YL (-1) ((xb : Int)) = bs at *
  have hbs : 34 ≤ bs.size := Nat.le_of_eq HYS.out.symm
  go_loopw [9] (fun u wr => ∃ k : Nat, k ≤ 32 ∧ u = .int .i64 k ∧ Bk wr G (lay bs 2 ((s.map B).take k)) 26 ∧ Bk wr w.heap.size ZERO 26 ∧ Rd wr (some ⟨g, o + p, none⟩) m ∧ Fr0 w wr) (fun u _ => 32 - (intOf u).toNat)
  case atStart => exact ⟨0, by omega, rfl, HP8.out, HR8.out, HD8.out, HF8.out⟩
  case round =>
    obtain ⟨k, hk, rfl, hbk, hrk, hdk, hfr⟩ := hrel
    have HBK := Lib.hid hbk
    have HRK := Lib.hid hrk
    have HDK := Lib.hid hdk
    have HFR := Lib.hid hfr
    have hlt0 : 2 + k < bs.size ∨ k = 32 := by omega
    clear hbk hrk hdk hfr
    by_cases hlt : k < 32
    · obtain ⟨v0, hv0⟩ : ∃ v0, wr.cell? ⟨G, 2 + k, none⟩ = some v0 := ⟨_, (HBK.out.cell _).trans (Array.getElem?_eq_getElem (by simp; omega))⟩
      have hfz := HBK.out.free (2 + k)
      obtain ⟨v, hv⟩ : ∃ v, (s.map B)[k]? = some (B v) ∧ s[k]'(by rw [HSL.out]; exact hlt) = v := ⟨s[k]'(by rw [HSL.out]; exact hlt), by rw [List.getElem?_map, List.getElem?_eq_getElem (by rw [HSL.out]; exact hlt)]; rfl, rfl⟩
      have hcs : wr.cell? ⟨g, o + (p + 8 + k), none⟩ = some (B v) := by rw [HSC.out wr HDK.out k (by rw [HSL.out]; exact hlt), hv.2]
      have HV := Lib.hid hv.1
      have hpk : (p : Int) + 8 + k < n := by omega
      have hvw : (0 : Int) ≤ (v.toNat : Int) := by omega
      have hvx : (v.toNat : Int) < 256 := by have := v.toNat_lt; omega
      simp only [B] at hcs
      have c9 : decide ((k : Int) < 32) = true := decide_eq_true (by omega)
      have c8 : (k : Int) < 32 := by omega
      have HLT := Lib.hid hlt
      clear hv hlt0 hbs hk hlt
      go_wp2
      have hkl : k < (s.map B).length := by have := HLT.out; rw [List.length_map, HSL.out]; exact this
      have hgl : (s.map B)[k] = .int .u8 (v.toNat : Int) := Option.some.inj ((List.getElem?_eq_getElem hkl).symm.trans HV.out)
      refine ⟨⟨k + 1, by have := HLT.out; omega, by go_num, ?_, Bk.setOther HRK.out _ _ (Ne.symm hGr), HDK.out.later (S := fun i => i = G) (Fr.set (Fr.refl (fun i => i = G) _) _ _ (.inr rfl)) (fun a e => by obtain rfl := Option.some.inj e; exact HGG.out), HFR.out.set _ _ (.inl hwG)⟩, by have := HLT.out; simp [intOf]; omega⟩
      rw [lay_take hkl, hgl]
      exact HBK.out.set _ _
    · have c9 : decide ((k : Int) < 32) = false := decide_eq_false (by omega)
      have HP9 : Hid (Bk wr G (PC (-1) ((xb : Int)) s).toArray 26) := Lib.hid (by
        have := HBK.out
        have e : (s.map B).take k = s.map B := List.take_of_length_le (by rw [List.length_map, HSL.out]; omega)
        rw [e, HLY.out] at this
        exact this)
      clear hlt0 hlt hk HBK hbs
      go_wp2_with (first | (refine wpList_load_row rfl 26 _ rfl G rfl 26 (PC (-1) ((xb : Int)) s).toArray (0, 0) _ HP9.out Try.underlying26 rfl HIQ.out ?_) | (go_at_call 35; (with_reducible refine (HRI.out _).mono ?_); rintro e w7 ⟨rfl, hf7⟩; have HF7 := Lib.hid (HFR.out.then0 hf7); have HP7 := Lib.hid (hf7.keep HP9.out (fun h => h)); have HR7 := Lib.hid (hf7.keep HRK.out (fun h => h)); clear hf7) | (refine PtrAsk.build_eq rfl 26 _ rfl ZERO (by kernel_rfl) ?_) | (refine wpList_store_row rfl 26 _ _ rfl w.heap.size ZERO rfl rfl 26 ZERO HR7.out info_p rfl ZERO_one ?_))
      refine fin_ct w.heap.size 26 ZERO (.int .i64 15) (by rfl) (by rfl) (by rfl) (by rfl) Try.underlying26 (by rfl) info_p (ArrKit.Bk.row HR7.out _) ?_
      exact ⟨rfl, ArrKit.Fr.row HF7.out _ _ (.inl (Nat.le_refl _))⟩

set_option maxHeartbeats 2000000 in
set_option maxRecDepth 100000 in
theorem rtake_ns_true (g o n c p : Nat) (xb : Nat) (hxb : xb ≠ 4294967295) (q1 q2 s : List UInt8) (w : World) (h1 : q1.length = 4) (h2 : q2.length = 4) (hs : s.length = 32) (e1 : num q1 = (4294967295 : Nat)) (e2 : num q2 = xb) (hrd : Rd w (some ⟨g, o + p, none⟩) (q1 ++ (q2 ++ s))) (hc : n ≤ c) (hcm : c ≤ 9223372036854775807) (hn : n ≤ 140737488351232) (hr : p + 40 ≤ n) (hrv : rightB (-1) ((xb : Int)) s = true) :
    Calls Try.prog 22 #[.slice (some ⟨g, o, none⟩) n c, .int .i64 p] w fun e w' => e = .returned (.tuple #[.agg (PC (-1) ((xb : Int)) s).toArray, .int .i64 0]) ∧ Fr0 w w' := by
  have cxb : ((xb : Int) == 4294967295) = false := by rw [beq_eq_false_iff_ne]; omega
  have d0 : decide ((p : Int) < 0) = false := decide_eq_false (by omega)
  have d1 : decide (n < p) = false := decide_eq_false (by omega)
  have d2 : decide ((n : Int) - p < 40) = false := decide_eq_false (by omega)
  have hml : (q1 ++ (q2 ++ s)).length = 40 := by simp [h1, h2, hs]
  have hx1 : num q1 < 4294967296 := by have := num_lt q1; rw [h1] at this; simpa using this
  have hx2 : num q2 < 4294967296 := by have := num_lt q2; rw [h2] at this; simpa using this
  have hq1 : ((q1 ++ (q2 ++ s)).drop 0).take 4 = q1 := by rw [List.drop_zero, List.take_left' h1]
  have hq2 : ((q1 ++ (q2 ++ s)).drop 4).take 4 = q2 := by rw [List.drop_left' h1, List.take_left' h2]
  have hgw : g < w.heap.size := by
    obtain ⟨b, o', e, hb, -⟩ := hrd.form (by omega)
    simp only [Option.some.injEq, Addr.mk.injEq] at e
    rw [e.1]; exact hb
  have HW1 : Hid (∀ W : World, Rd W (some ⟨g, o + p, none⟩) (q1 ++ (q2 ++ s)) → Calls Try.prog 21 #[.slice (some ⟨g, o, none⟩) n c, .int .i64 p, .int .i64 4] W fun e w' => e = .returned (.tuple #[.int .i64 4294967295, .int .i64 0]) ∧ W = w') := Lib.hid (fun W h => by
    have hs1 := h.sub 0 4
    rw [hq1] at hs1
    have := RefWord.take_ok0 g o n c p 4 q1 W h1 hs1 (by omega) (by omega) (by omega) (by omega) (by omega) (by omega) (by omega)
    rw [e1] at this
    exact this)
  have HW2 : Hid (∀ W : World, Rd W (some ⟨g, o + p, none⟩) (q1 ++ (q2 ++ s)) → Calls Try.prog 21 #[.slice (some ⟨g, o, none⟩) n c, .int .i64 ((p : Int) + 4), .int .i64 4] W fun e w' => e = .returned (.tuple #[.int .i64 (xb : Int), .int .i64 0]) ∧ W = w') := Lib.hid (fun W h => by
    have hs1 := h.sub 4 4
    rw [hq2, Nat.add_assoc] at hs1
    have := RefWord.take_ok0 g o n c (p + 4) 4 q2 W h2 hs1 (by omega) (by omega) (by omega) (by omega) (by omega) (by omega) (by omega)
    rw [e2] at this
    simpa using this)
  have HSC : Hid (∀ W : World, Rd W (some ⟨g, o + p, none⟩) (q1 ++ (q2 ++ s)) → ∀ j (hj : j < s.length), W.cell? ⟨g, o + (p + 8 + j), none⟩ = some (B s[j])) := Lib.hid (fun W h j hjl => by
    obtain ⟨a, ea, hca⟩ := h (8 + j) (by omega)
    obtain rfl := Option.some.inj ea
    rw [add_form] at hca
    rw [show o + (p + 8 + j) = o + p + (8 + j) by omega, hca, List.getElem_append_right (by omega), List.getElem_append_right (by omega)]
    simp [h1, h2, show 8 + j - 4 - 4 = j by omega])
  have HSL := Lib.hid hs
  have hwfa : (Lit.int .i64 (-1)).wf = true := by decide
  have hwfb : (Lit.int .i64 ((xb : Int))).wf = true := by simp [Lit.wf, IntKind.min, IntKind.max, IntKind.signed, IntKind.bits]; omega
  have HRI : Hid (∀ W : World, Calls Try.prog 35 #[.agg (PC (-1) ((xb : Int)) s).toArray] W fun e w' => e = .returned (.bool true) ∧ Fr0 W w') := Lib.hid (fun W => by
    have := rright_calls (-1) ((xb : Int)) s W hs hwfa hwfb
    rw [hrv] at this
    exact this)
  have HIQ : Hid ((Try.prog.info? 26).map (·.size) = some (PC (-1) ((xb : Int)) s).toArray.size) := Lib.hid (by rw [info_p, List.size_toArray, PC_length, hs])
  have HZQ : Hid (ZERO.size = (PC (-1) ((xb : Int)) s).toArray.size) := Lib.hid ((show ZERO.size = 34 from rfl).trans (by rw [List.size_toArray, PC_length, hs]))
  have HQO : Hid ((PC (-1) ((xb : Int)) s).toArray.all (·.oneCell') = true) := Lib.hid (by simp [PC, B, Value.oneCell'])
  have HR0 : Hid (Bk (w.alloc (.cells ZERO 26)) w.heap.size ZERO 26) := Lib.hid (Bk.new w _)
  have HF0 : Hid (Fr0 w (w.alloc (.cells ZERO 26))) := Lib.hid (Fr.alloc (Fr.refl _ _) _)
  have HD0 : Hid (Rd (w.alloc (.cells ZERO 26)) (some ⟨g, o + p, none⟩) (q1 ++ (q2 ++ s))) := Lib.hid (hrd.later HF0.out (fun _ _ h => h))
  clear hml hx1 hx2 hq1 hq2 e1 e2 hrd h1 h2 hs hwfa hwfb
  generalize q1 ++ (q2 ++ s) = m at *
  clear hrv
  go_enter Try.func22, Try.ntmps22
  go_wp2_with fail
  have hs1 : (w.alloc (.cells ZERO 26)).heap.size = w.heap.size + 1 := by simp
  have HL1 : Hid (Bk ((w.alloc (.cells ZERO 26)).alloc (.cells #[.int .i64 0, .int .i64 0] 68)) (w.heap.size + 1) #[.int .i64 0, .int .i64 0] 68) := Lib.hid (by have := Bk.new (w.alloc (.cells ZERO 26)) (.cells #[.int .i64 0, .int .i64 0] 68); rwa [hs1] at this)
  have HR1 : Hid (Bk ((w.alloc (.cells ZERO 26)).alloc (.cells #[.int .i64 0, .int .i64 0] 68)) w.heap.size ZERO 26) := Lib.hid (Bk.alloc HR0.out _)
  have HF1 : Hid (Fr0 w ((w.alloc (.cells ZERO 26)).alloc (.cells #[.int .i64 0, .int .i64 0] 68))) := Lib.hid (Fr.alloc HF0.out _)
  have HD1 : Hid (Rd ((w.alloc (.cells ZERO 26)).alloc (.cells #[.int .i64 0, .int .i64 0] 68)) (some ⟨g, o + p, none⟩) m) := Lib.hid (HD0.out.later (S := fun _ => False) (Fr.alloc (Fr.refl _ _) _) (fun _ _ h => h))
  change Code.wp _ _ _ _ ((w.alloc (.cells ZERO 26)).alloc (.cells #[.int .i64 0, .int .i64 0] 68))
  have hHg : w.heap.size + 1 ≠ g := by omega
  have hHr : w.heap.size + 1 ≠ w.heap.size := by omega
  have hwH : w.heap.size ≤ w.heap.size + 1 := by omega
  clear hs1
  generalize (w.alloc (.cells ZERO 26)).alloc (.cells #[.int .i64 0, .int .i64 0] 68) = w1 at *
  generalize w.heap.size + 1 = H at *
  have l0 : w1.cell? ⟨H, 0, none⟩ = some (.int .i64 0) := Bk.cell HL1.out 0
  have z0 : w1.frozen? ⟨H, 0, none⟩ = false := Bk.free HL1.out 0
  refine wp_loop_rounds 3 ?_
  rw [rounds_succ]
  go_wp2_with (first | (go_at_call 21; (with_reducible refine (HW1.out _ HD1.out).mono ?_); rintro e w3 ⟨rfl, rfl⟩))
  have HL4 : Hid (Bk ((w1.setCell ⟨H, 0, none⟩ (.int .i64 (4294967295))).setCell ⟨H, 0, none⟩ (.int .i64 (-1))) H #[.int .i64 (-1), .int .i64 0] 68) := Lib.hid ((HL1.out.set 0 _).set 0 _)
  have HR4 : Hid (Bk ((w1.setCell ⟨H, 0, none⟩ (.int .i64 (4294967295))).setCell ⟨H, 0, none⟩ (.int .i64 (-1))) w.heap.size ZERO 26) := Lib.hid (Bk.setOther (Bk.setOther HR1.out _ _ (Ne.symm hHr)) _ _ (Ne.symm hHr))
  have HF4 : Hid (Fr0 w ((w1.setCell ⟨H, 0, none⟩ (.int .i64 (4294967295))).setCell ⟨H, 0, none⟩ (.int .i64 (-1)))) := Lib.hid (Fr.set (Fr.set HF1.out _ _ (.inl hwH)) _ _ (.inl hwH))
  have HD4 : Hid (Rd ((w1.setCell ⟨H, 0, none⟩ (.int .i64 (4294967295))).setCell ⟨H, 0, none⟩ (.int .i64 (-1))) (some ⟨g, o + p, none⟩) m) := Lib.hid (HD1.out.later (S := fun i => i = H) (Fr.set (Fr.set (Fr.refl (fun i => i = H) _) _ _ (.inr rfl)) _ _ (.inr rfl)) (fun a e => by obtain rfl := Option.some.inj e; exact Ne.symm hHg))
  clear l0 z0
  generalize (w1.setCell ⟨H, 0, none⟩ (.int .i64 (4294967295))).setCell ⟨H, 0, none⟩ (.int .i64 (-1)) = w4 at *
  have l1 : w4.cell? ⟨H, 1, none⟩ = some (.int .i64 0) := Bk.cell HL4.out 1
  have z1 : w4.frozen? ⟨H, 1, none⟩ = false := Bk.free HL4.out 1
  rw [rounds_succ]
  go_wp2_with (first | (go_at_call 21; (with_reducible refine (HW2.out _ HD4.out).mono ?_); rintro e w3 ⟨rfl, rfl⟩))
  have HL6 : Hid (Bk (w4.setCell ⟨H, 1, none⟩ (.int .i64 ((xb : Int)))) H #[.int .i64 (-1), .int .i64 ((xb : Int))] 68) := Lib.hid (HL4.out.set 1 _)
  have HR6 : Hid (Bk (w4.setCell ⟨H, 1, none⟩ (.int .i64 ((xb : Int)))) w.heap.size ZERO 26) := Lib.hid (Bk.setOther HR4.out _ _ (Ne.symm hHr))
  have HF6 : Hid (Fr0 w (w4.setCell ⟨H, 1, none⟩ (.int .i64 ((xb : Int))))) := Lib.hid (Fr.set HF4.out _ _ (.inl hwH))
  have HD6 : Hid (Rd (w4.setCell ⟨H, 1, none⟩ (.int .i64 ((xb : Int)))) (some ⟨g, o + p, none⟩) m) := Lib.hid (HD4.out.later (S := fun i => i = H) (Fr.set (Fr.refl (fun i => i = H) _) _ _ (.inr rfl)) (fun a e => by obtain rfl := Option.some.inj e; exact Ne.symm hHg))
  clear l1 z1
  generalize w4.setCell ⟨H, 1, none⟩ (.int .i64 ((xb : Int))) = w6 at *
  rw [rounds_succ]
  have m0 : w6.cell? ⟨H, 0, none⟩ = some (.int .i64 (-1)) := Bk.cell HL6.out 0
  have m1 : w6.cell? ⟨H, 1, none⟩ = some (.int .i64 ((xb : Int))) := Bk.cell HL6.out 1
  have HN6 : Hid (Bk (w6.alloc (.cells ZERO 26)) w6.heap.size ZERO 26) := Lib.hid (Bk.new _ _)
  have HYI : Hid ((Try.prog.info? 26).map (·.size) = some (YL (-1) ((xb : Int))).size) := Lib.hid info_p
  go_wp2_with (first | (refine wpList_store_row rfl 26 _ _ rfl w6.heap.size (YL (-1) ((xb : Int))) rfl rfl 26 ZERO HN6.out HYI.out rfl (YL_one (-1) ((xb : Int))) ?_; change wpList _ _ _ _ _ ((w6.alloc (.cells ZERO 26)).setRow w6.heap.size (YL (-1) ((xb : Int))))))
  have hwr := Bk.lt HR6.out
  have hgG : g < w6.heap.size := by omega
  have HP8 : Hid (Bk ((w6.alloc (.cells ZERO 26)).setRow w6.heap.size (YL (-1) ((xb : Int)))) w6.heap.size (YL (-1) ((xb : Int))) 26) := Lib.hid (ArrKit.Bk.row HN6.out _)
  have HR8 : Hid (Bk ((w6.alloc (.cells ZERO 26)).setRow w6.heap.size (YL (-1) ((xb : Int)))) w.heap.size ZERO 26) := Lib.hid (ArrKit.Bk.rowOther (Bk.alloc HR6.out _) _ (by omega))
  have HF8 : Hid (Fr0 w ((w6.alloc (.cells ZERO 26)).setRow w6.heap.size (YL (-1) ((xb : Int))))) := Lib.hid (ArrKit.Fr.row (Fr.alloc HF6.out _) _ _ (.inl (by omega)))
  have HD8 : Hid (Rd ((w6.alloc (.cells ZERO 26)).setRow w6.heap.size (YL (-1) ((xb : Int)))) (some ⟨g, o + p, none⟩) m) := Lib.hid (HD6.out.later (S := fun i => i = w6.heap.size) (ArrKit.Fr.row (Fr.alloc (Fr.refl (fun i => i = w6.heap.size) _) _) _ _ (.inr rfl)) (fun a e => by obtain rfl := Option.some.inj e; exact Nat.ne_of_lt hgG))
  have hwG : w.heap.size ≤ w6.heap.size := Nat.le_of_lt hwr
  have hGr : w6.heap.size ≠ w.heap.size := by omega
  have HGG : Hid (g ≠ w6.heap.size) := Lib.hid (Nat.ne_of_lt hgG)
  clear m0 m1 HN6 HL6 HR6 HF6 HD6 hwr hgG
  generalize (w6.alloc (.cells ZERO 26)).setRow w6.heap.size (YL (-1) ((xb : Int))) = w8 at *
  generalize w6.heap.size = G at *
  have HLY : Hid (lay (YL (-1) ((xb : Int))) 2 (s.map B) = (PC (-1) ((xb : Int)) s).toArray) := Lib.hid (lay_YL (-1) ((xb : Int)) s HSL.out)
  have HYS : Hid ((YL (-1) ((xb : Int))).size = 34) := Lib.hid rfl
  generalize YL (-1) ((xb : Int)) = bs at *
  have hbs : 34 ≤ bs.size := Nat.le_of_eq HYS.out.symm
  go_loopw [9] (fun u wr => ∃ k : Nat, k ≤ 32 ∧ u = .int .i64 k ∧ Bk wr G (lay bs 2 ((s.map B).take k)) 26 ∧ Bk wr w.heap.size ZERO 26 ∧ Rd wr (some ⟨g, o + p, none⟩) m ∧ Fr0 w wr) (fun u _ => 32 - (intOf u).toNat)
  case atStart => exact ⟨0, by omega, rfl, HP8.out, HR8.out, HD8.out, HF8.out⟩
  case round =>
    obtain ⟨k, hk, rfl, hbk, hrk, hdk, hfr⟩ := hrel
    have HBK := Lib.hid hbk
    have HRK := Lib.hid hrk
    have HDK := Lib.hid hdk
    have HFR := Lib.hid hfr
    have hlt0 : 2 + k < bs.size ∨ k = 32 := by omega
    clear hbk hrk hdk hfr
    by_cases hlt : k < 32
    · obtain ⟨v0, hv0⟩ : ∃ v0, wr.cell? ⟨G, 2 + k, none⟩ = some v0 := ⟨_, (HBK.out.cell _).trans (Array.getElem?_eq_getElem (by simp; omega))⟩
      have hfz := HBK.out.free (2 + k)
      obtain ⟨v, hv⟩ : ∃ v, (s.map B)[k]? = some (B v) ∧ s[k]'(by rw [HSL.out]; exact hlt) = v := ⟨s[k]'(by rw [HSL.out]; exact hlt), by rw [List.getElem?_map, List.getElem?_eq_getElem (by rw [HSL.out]; exact hlt)]; rfl, rfl⟩
      have hcs : wr.cell? ⟨g, o + (p + 8 + k), none⟩ = some (B v) := by rw [HSC.out wr HDK.out k (by rw [HSL.out]; exact hlt), hv.2]
      have HV := Lib.hid hv.1
      have hpk : (p : Int) + 8 + k < n := by omega
      have hvw : (0 : Int) ≤ (v.toNat : Int) := by omega
      have hvx : (v.toNat : Int) < 256 := by have := v.toNat_lt; omega
      simp only [B] at hcs
      have c9 : decide ((k : Int) < 32) = true := decide_eq_true (by omega)
      have c8 : (k : Int) < 32 := by omega
      have HLT := Lib.hid hlt
      clear hv hlt0 hbs hk hlt
      go_wp2
      have hkl : k < (s.map B).length := by have := HLT.out; rw [List.length_map, HSL.out]; exact this
      have hgl : (s.map B)[k] = .int .u8 (v.toNat : Int) := Option.some.inj ((List.getElem?_eq_getElem hkl).symm.trans HV.out)
      refine ⟨⟨k + 1, by have := HLT.out; omega, by go_num, ?_, Bk.setOther HRK.out _ _ (Ne.symm hGr), HDK.out.later (S := fun i => i = G) (Fr.set (Fr.refl (fun i => i = G) _) _ _ (.inr rfl)) (fun a e => by obtain rfl := Option.some.inj e; exact HGG.out), HFR.out.set _ _ (.inl hwG)⟩, by have := HLT.out; simp [intOf]; omega⟩
      rw [lay_take hkl, hgl]
      exact HBK.out.set _ _
    · have c9 : decide ((k : Int) < 32) = false := decide_eq_false (by omega)
      have HP9 : Hid (Bk wr G (PC (-1) ((xb : Int)) s).toArray 26) := Lib.hid (by
        have := HBK.out
        have e : (s.map B).take k = s.map B := List.take_of_length_le (by rw [List.length_map, HSL.out]; omega)
        rw [e, HLY.out] at this
        exact this)
      clear hlt0 hlt hk HBK hbs
      go_wp2_with (first | (refine wpList_load_row rfl 26 _ rfl G rfl 26 (PC (-1) ((xb : Int)) s).toArray (0, 0) _ HP9.out Try.underlying26 rfl HIQ.out ?_) | (go_at_call 35; (with_reducible refine (HRI.out _).mono ?_); rintro e w7 ⟨rfl, hf7⟩; have HF7 := Lib.hid (HFR.out.then0 hf7); have HP7 := Lib.hid (hf7.keep HP9.out (fun h => h)); have HR7 := Lib.hid (hf7.keep HRK.out (fun h => h)); clear hf7) | (refine wpList_load_row rfl 26 _ rfl G rfl 26 (PC (-1) ((xb : Int)) s).toArray (0, 0) _ HP7.out Try.underlying26 rfl HIQ.out ?_) | (refine wpList_store_row rfl 26 _ _ rfl w.heap.size (PC (-1) ((xb : Int)) s).toArray rfl rfl 26 ZERO HR7.out HIQ.out HZQ.out HQO.out ?_))
      refine fin_ct w.heap.size 26 (PC (-1) ((xb : Int)) s).toArray (.int .i64 0) (by rfl) (by rfl) (by rfl) (by rfl) Try.underlying26 (by rfl) HIQ.out (ArrKit.Bk.row HR7.out _) ?_
      exact ⟨rfl, ArrKit.Fr.row HF7.out _ _ (.inl (Nat.le_refl _))⟩

set_option maxHeartbeats 2000000 in
set_option maxRecDepth 100000 in
theorem rtake_sn_false (g o n c p : Nat) (xa : Nat) (hxa : xa ≠ 4294967295) (q1 q2 s : List UInt8) (w : World) (h1 : q1.length = 4) (h2 : q2.length = 4) (hs : s.length = 32) (e1 : num q1 = xa) (e2 : num q2 = (4294967295 : Nat)) (hrd : Rd w (some ⟨g, o + p, none⟩) (q1 ++ (q2 ++ s))) (hc : n ≤ c) (hcm : c ≤ 9223372036854775807) (hn : n ≤ 140737488351232) (hr : p + 40 ≤ n) (hrv : rightB ((xa : Int)) (-1) s = false) :
    Calls Try.prog 22 #[.slice (some ⟨g, o, none⟩) n c, .int .i64 p] w fun e w' => e = .returned (.tuple #[.agg ZERO, .int .i64 15]) ∧ Fr0 w w' := by
  have cxa : ((xa : Int) == 4294967295) = false := by rw [beq_eq_false_iff_ne]; omega
  have d0 : decide ((p : Int) < 0) = false := decide_eq_false (by omega)
  have d1 : decide (n < p) = false := decide_eq_false (by omega)
  have d2 : decide ((n : Int) - p < 40) = false := decide_eq_false (by omega)
  have hml : (q1 ++ (q2 ++ s)).length = 40 := by simp [h1, h2, hs]
  have hx1 : num q1 < 4294967296 := by have := num_lt q1; rw [h1] at this; simpa using this
  have hx2 : num q2 < 4294967296 := by have := num_lt q2; rw [h2] at this; simpa using this
  have hq1 : ((q1 ++ (q2 ++ s)).drop 0).take 4 = q1 := by rw [List.drop_zero, List.take_left' h1]
  have hq2 : ((q1 ++ (q2 ++ s)).drop 4).take 4 = q2 := by rw [List.drop_left' h1, List.take_left' h2]
  have hgw : g < w.heap.size := by
    obtain ⟨b, o', e, hb, -⟩ := hrd.form (by omega)
    simp only [Option.some.injEq, Addr.mk.injEq] at e
    rw [e.1]; exact hb
  have HW1 : Hid (∀ W : World, Rd W (some ⟨g, o + p, none⟩) (q1 ++ (q2 ++ s)) → Calls Try.prog 21 #[.slice (some ⟨g, o, none⟩) n c, .int .i64 p, .int .i64 4] W fun e w' => e = .returned (.tuple #[.int .i64 (xa : Int), .int .i64 0]) ∧ W = w') := Lib.hid (fun W h => by
    have hs1 := h.sub 0 4
    rw [hq1] at hs1
    have := RefWord.take_ok0 g o n c p 4 q1 W h1 hs1 (by omega) (by omega) (by omega) (by omega) (by omega) (by omega) (by omega)
    rw [e1] at this
    exact this)
  have HW2 : Hid (∀ W : World, Rd W (some ⟨g, o + p, none⟩) (q1 ++ (q2 ++ s)) → Calls Try.prog 21 #[.slice (some ⟨g, o, none⟩) n c, .int .i64 ((p : Int) + 4), .int .i64 4] W fun e w' => e = .returned (.tuple #[.int .i64 4294967295, .int .i64 0]) ∧ W = w') := Lib.hid (fun W h => by
    have hs1 := h.sub 4 4
    rw [hq2, Nat.add_assoc] at hs1
    have := RefWord.take_ok0 g o n c (p + 4) 4 q2 W h2 hs1 (by omega) (by omega) (by omega) (by omega) (by omega) (by omega) (by omega)
    rw [e2] at this
    simpa using this)
  have HSC : Hid (∀ W : World, Rd W (some ⟨g, o + p, none⟩) (q1 ++ (q2 ++ s)) → ∀ j (hj : j < s.length), W.cell? ⟨g, o + (p + 8 + j), none⟩ = some (B s[j])) := Lib.hid (fun W h j hjl => by
    obtain ⟨a, ea, hca⟩ := h (8 + j) (by omega)
    obtain rfl := Option.some.inj ea
    rw [add_form] at hca
    rw [show o + (p + 8 + j) = o + p + (8 + j) by omega, hca, List.getElem_append_right (by omega), List.getElem_append_right (by omega)]
    simp [h1, h2, show 8 + j - 4 - 4 = j by omega])
  have HSL := Lib.hid hs
  have hwfa : (Lit.int .i64 ((xa : Int))).wf = true := by simp [Lit.wf, IntKind.min, IntKind.max, IntKind.signed, IntKind.bits]; omega
  have hwfb : (Lit.int .i64 (-1)).wf = true := by decide
  have HRI : Hid (∀ W : World, Calls Try.prog 35 #[.agg (PC ((xa : Int)) (-1) s).toArray] W fun e w' => e = .returned (.bool false) ∧ Fr0 W w') := Lib.hid (fun W => by
    have := rright_calls ((xa : Int)) (-1) s W hs hwfa hwfb
    rw [hrv] at this
    exact this)
  have HIQ : Hid ((Try.prog.info? 26).map (·.size) = some (PC ((xa : Int)) (-1) s).toArray.size) := Lib.hid (by rw [info_p, List.size_toArray, PC_length, hs])
  have HZQ : Hid (ZERO.size = (PC ((xa : Int)) (-1) s).toArray.size) := Lib.hid ((show ZERO.size = 34 from rfl).trans (by rw [List.size_toArray, PC_length, hs]))
  have HQO : Hid ((PC ((xa : Int)) (-1) s).toArray.all (·.oneCell') = true) := Lib.hid (by simp [PC, B, Value.oneCell'])
  have HR0 : Hid (Bk (w.alloc (.cells ZERO 26)) w.heap.size ZERO 26) := Lib.hid (Bk.new w _)
  have HF0 : Hid (Fr0 w (w.alloc (.cells ZERO 26))) := Lib.hid (Fr.alloc (Fr.refl _ _) _)
  have HD0 : Hid (Rd (w.alloc (.cells ZERO 26)) (some ⟨g, o + p, none⟩) (q1 ++ (q2 ++ s))) := Lib.hid (hrd.later HF0.out (fun _ _ h => h))
  clear hml hx1 hx2 hq1 hq2 e1 e2 hrd h1 h2 hs hwfa hwfb
  generalize q1 ++ (q2 ++ s) = m at *
  clear hrv
  go_enter Try.func22, Try.ntmps22
  go_wp2_with fail
  have hs1 : (w.alloc (.cells ZERO 26)).heap.size = w.heap.size + 1 := by simp
  have HL1 : Hid (Bk ((w.alloc (.cells ZERO 26)).alloc (.cells #[.int .i64 0, .int .i64 0] 68)) (w.heap.size + 1) #[.int .i64 0, .int .i64 0] 68) := Lib.hid (by have := Bk.new (w.alloc (.cells ZERO 26)) (.cells #[.int .i64 0, .int .i64 0] 68); rwa [hs1] at this)
  have HR1 : Hid (Bk ((w.alloc (.cells ZERO 26)).alloc (.cells #[.int .i64 0, .int .i64 0] 68)) w.heap.size ZERO 26) := Lib.hid (Bk.alloc HR0.out _)
  have HF1 : Hid (Fr0 w ((w.alloc (.cells ZERO 26)).alloc (.cells #[.int .i64 0, .int .i64 0] 68))) := Lib.hid (Fr.alloc HF0.out _)
  have HD1 : Hid (Rd ((w.alloc (.cells ZERO 26)).alloc (.cells #[.int .i64 0, .int .i64 0] 68)) (some ⟨g, o + p, none⟩) m) := Lib.hid (HD0.out.later (S := fun _ => False) (Fr.alloc (Fr.refl _ _) _) (fun _ _ h => h))
  change Code.wp _ _ _ _ ((w.alloc (.cells ZERO 26)).alloc (.cells #[.int .i64 0, .int .i64 0] 68))
  have hHg : w.heap.size + 1 ≠ g := by omega
  have hHr : w.heap.size + 1 ≠ w.heap.size := by omega
  have hwH : w.heap.size ≤ w.heap.size + 1 := by omega
  clear hs1
  generalize (w.alloc (.cells ZERO 26)).alloc (.cells #[.int .i64 0, .int .i64 0] 68) = w1 at *
  generalize w.heap.size + 1 = H at *
  have l0 : w1.cell? ⟨H, 0, none⟩ = some (.int .i64 0) := Bk.cell HL1.out 0
  have z0 : w1.frozen? ⟨H, 0, none⟩ = false := Bk.free HL1.out 0
  refine wp_loop_rounds 3 ?_
  rw [rounds_succ]
  go_wp2_with (first | (go_at_call 21; (with_reducible refine (HW1.out _ HD1.out).mono ?_); rintro e w3 ⟨rfl, rfl⟩))
  have HL4 : Hid (Bk (w1.setCell ⟨H, 0, none⟩ (.int .i64 ((xa : Int)))) H #[.int .i64 ((xa : Int)), .int .i64 0] 68) := Lib.hid (HL1.out.set 0 _)
  have HR4 : Hid (Bk (w1.setCell ⟨H, 0, none⟩ (.int .i64 ((xa : Int)))) w.heap.size ZERO 26) := Lib.hid (Bk.setOther HR1.out _ _ (Ne.symm hHr))
  have HF4 : Hid (Fr0 w (w1.setCell ⟨H, 0, none⟩ (.int .i64 ((xa : Int))))) := Lib.hid (Fr.set HF1.out _ _ (.inl hwH))
  have HD4 : Hid (Rd (w1.setCell ⟨H, 0, none⟩ (.int .i64 ((xa : Int)))) (some ⟨g, o + p, none⟩) m) := Lib.hid (HD1.out.later (S := fun i => i = H) (Fr.set (Fr.refl (fun i => i = H) _) _ _ (.inr rfl)) (fun a e => by obtain rfl := Option.some.inj e; exact Ne.symm hHg))
  clear l0 z0
  generalize w1.setCell ⟨H, 0, none⟩ (.int .i64 ((xa : Int))) = w4 at *
  have l1 : w4.cell? ⟨H, 1, none⟩ = some (.int .i64 0) := Bk.cell HL4.out 1
  have z1 : w4.frozen? ⟨H, 1, none⟩ = false := Bk.free HL4.out 1
  rw [rounds_succ]
  go_wp2_with (first | (go_at_call 21; (with_reducible refine (HW2.out _ HD4.out).mono ?_); rintro e w3 ⟨rfl, rfl⟩))
  have HL6 : Hid (Bk ((w4.setCell ⟨H, 1, none⟩ (.int .i64 (4294967295))).setCell ⟨H, 1, none⟩ (.int .i64 (-1))) H #[.int .i64 ((xa : Int)), .int .i64 (-1)] 68) := Lib.hid ((HL4.out.set 1 _).set 1 _)
  have HR6 : Hid (Bk ((w4.setCell ⟨H, 1, none⟩ (.int .i64 (4294967295))).setCell ⟨H, 1, none⟩ (.int .i64 (-1))) w.heap.size ZERO 26) := Lib.hid (Bk.setOther (Bk.setOther HR4.out _ _ (Ne.symm hHr)) _ _ (Ne.symm hHr))
  have HF6 : Hid (Fr0 w ((w4.setCell ⟨H, 1, none⟩ (.int .i64 (4294967295))).setCell ⟨H, 1, none⟩ (.int .i64 (-1)))) := Lib.hid (Fr.set (Fr.set HF4.out _ _ (.inl hwH)) _ _ (.inl hwH))
  have HD6 : Hid (Rd ((w4.setCell ⟨H, 1, none⟩ (.int .i64 (4294967295))).setCell ⟨H, 1, none⟩ (.int .i64 (-1))) (some ⟨g, o + p, none⟩) m) := Lib.hid (HD4.out.later (S := fun i => i = H) (Fr.set (Fr.set (Fr.refl (fun i => i = H) _) _ _ (.inr rfl)) _ _ (.inr rfl)) (fun a e => by obtain rfl := Option.some.inj e; exact Ne.symm hHg))
  clear l1 z1
  generalize (w4.setCell ⟨H, 1, none⟩ (.int .i64 (4294967295))).setCell ⟨H, 1, none⟩ (.int .i64 (-1)) = w6 at *
  rw [rounds_succ]
  have m0 : w6.cell? ⟨H, 0, none⟩ = some (.int .i64 ((xa : Int))) := Bk.cell HL6.out 0
  have m1 : w6.cell? ⟨H, 1, none⟩ = some (.int .i64 (-1)) := Bk.cell HL6.out 1
  have HN6 : Hid (Bk (w6.alloc (.cells ZERO 26)) w6.heap.size ZERO 26) := Lib.hid (Bk.new _ _)
  have HYI : Hid ((Try.prog.info? 26).map (·.size) = some (YL ((xa : Int)) (-1)).size) := Lib.hid info_p
  go_wp2_with (first | (refine wpList_store_row rfl 26 _ _ rfl w6.heap.size (YL ((xa : Int)) (-1)) rfl rfl 26 ZERO HN6.out HYI.out rfl (YL_one ((xa : Int)) (-1)) ?_; change wpList _ _ _ _ _ ((w6.alloc (.cells ZERO 26)).setRow w6.heap.size (YL ((xa : Int)) (-1)))))
  have hwr := Bk.lt HR6.out
  have hgG : g < w6.heap.size := by omega
  have HP8 : Hid (Bk ((w6.alloc (.cells ZERO 26)).setRow w6.heap.size (YL ((xa : Int)) (-1))) w6.heap.size (YL ((xa : Int)) (-1)) 26) := Lib.hid (ArrKit.Bk.row HN6.out _)
  have HR8 : Hid (Bk ((w6.alloc (.cells ZERO 26)).setRow w6.heap.size (YL ((xa : Int)) (-1))) w.heap.size ZERO 26) := Lib.hid (ArrKit.Bk.rowOther (Bk.alloc HR6.out _) _ (by omega))
  have HF8 : Hid (Fr0 w ((w6.alloc (.cells ZERO 26)).setRow w6.heap.size (YL ((xa : Int)) (-1)))) := Lib.hid (ArrKit.Fr.row (Fr.alloc HF6.out _) _ _ (.inl (by omega)))
  have HD8 : Hid (Rd ((w6.alloc (.cells ZERO 26)).setRow w6.heap.size (YL ((xa : Int)) (-1))) (some ⟨g, o + p, none⟩) m) := Lib.hid (HD6.out.later (S := fun i => i = w6.heap.size) (ArrKit.Fr.row (Fr.alloc (Fr.refl (fun i => i = w6.heap.size) _) _) _ _ (.inr rfl)) (fun a e => by obtain rfl := Option.some.inj e; exact Nat.ne_of_lt hgG))
  have hwG : w.heap.size ≤ w6.heap.size := Nat.le_of_lt hwr
  have hGr : w6.heap.size ≠ w.heap.size := by omega
  have HGG : Hid (g ≠ w6.heap.size) := Lib.hid (Nat.ne_of_lt hgG)
  clear m0 m1 HN6 HL6 HR6 HF6 HD6 hwr hgG
  generalize (w6.alloc (.cells ZERO 26)).setRow w6.heap.size (YL ((xa : Int)) (-1)) = w8 at *
  generalize w6.heap.size = G at *
  have HLY : Hid (lay (YL ((xa : Int)) (-1)) 2 (s.map B) = (PC ((xa : Int)) (-1) s).toArray) := Lib.hid (lay_YL ((xa : Int)) (-1) s HSL.out)
  have HYS : Hid ((YL ((xa : Int)) (-1)).size = 34) := Lib.hid rfl
  generalize YL ((xa : Int)) (-1) = bs at *
  have hbs : 34 ≤ bs.size := Nat.le_of_eq HYS.out.symm
  go_loopw [9] (fun u wr => ∃ k : Nat, k ≤ 32 ∧ u = .int .i64 k ∧ Bk wr G (lay bs 2 ((s.map B).take k)) 26 ∧ Bk wr w.heap.size ZERO 26 ∧ Rd wr (some ⟨g, o + p, none⟩) m ∧ Fr0 w wr) (fun u _ => 32 - (intOf u).toNat)
  case atStart => exact ⟨0, by omega, rfl, HP8.out, HR8.out, HD8.out, HF8.out⟩
  case round =>
    obtain ⟨k, hk, rfl, hbk, hrk, hdk, hfr⟩ := hrel
    have HBK := Lib.hid hbk
    have HRK := Lib.hid hrk
    have HDK := Lib.hid hdk
    have HFR := Lib.hid hfr
    have hlt0 : 2 + k < bs.size ∨ k = 32 := by omega
    clear hbk hrk hdk hfr
    by_cases hlt : k < 32
    · obtain ⟨v0, hv0⟩ : ∃ v0, wr.cell? ⟨G, 2 + k, none⟩ = some v0 := ⟨_, (HBK.out.cell _).trans (Array.getElem?_eq_getElem (by simp; omega))⟩
      have hfz := HBK.out.free (2 + k)
      obtain ⟨v, hv⟩ : ∃ v, (s.map B)[k]? = some (B v) ∧ s[k]'(by rw [HSL.out]; exact hlt) = v := ⟨s[k]'(by rw [HSL.out]; exact hlt), by rw [List.getElem?_map, List.getElem?_eq_getElem (by rw [HSL.out]; exact hlt)]; rfl, rfl⟩
      have hcs : wr.cell? ⟨g, o + (p + 8 + k), none⟩ = some (B v) := by rw [HSC.out wr HDK.out k (by rw [HSL.out]; exact hlt), hv.2]
      have HV := Lib.hid hv.1
      have hpk : (p : Int) + 8 + k < n := by omega
      have hvw : (0 : Int) ≤ (v.toNat : Int) := by omega
      have hvx : (v.toNat : Int) < 256 := by have := v.toNat_lt; omega
      simp only [B] at hcs
      have c9 : decide ((k : Int) < 32) = true := decide_eq_true (by omega)
      have c8 : (k : Int) < 32 := by omega
      have HLT := Lib.hid hlt
      clear hv hlt0 hbs hk hlt
      go_wp2
      have hkl : k < (s.map B).length := by have := HLT.out; rw [List.length_map, HSL.out]; exact this
      have hgl : (s.map B)[k] = .int .u8 (v.toNat : Int) := Option.some.inj ((List.getElem?_eq_getElem hkl).symm.trans HV.out)
      refine ⟨⟨k + 1, by have := HLT.out; omega, by go_num, ?_, Bk.setOther HRK.out _ _ (Ne.symm hGr), HDK.out.later (S := fun i => i = G) (Fr.set (Fr.refl (fun i => i = G) _) _ _ (.inr rfl)) (fun a e => by obtain rfl := Option.some.inj e; exact HGG.out), HFR.out.set _ _ (.inl hwG)⟩, by have := HLT.out; simp [intOf]; omega⟩
      rw [lay_take hkl, hgl]
      exact HBK.out.set _ _
    · have c9 : decide ((k : Int) < 32) = false := decide_eq_false (by omega)
      have HP9 : Hid (Bk wr G (PC ((xa : Int)) (-1) s).toArray 26) := Lib.hid (by
        have := HBK.out
        have e : (s.map B).take k = s.map B := List.take_of_length_le (by rw [List.length_map, HSL.out]; omega)
        rw [e, HLY.out] at this
        exact this)
      clear hlt0 hlt hk HBK hbs
      go_wp2_with (first | (refine wpList_load_row rfl 26 _ rfl G rfl 26 (PC ((xa : Int)) (-1) s).toArray (0, 0) _ HP9.out Try.underlying26 rfl HIQ.out ?_) | (go_at_call 35; (with_reducible refine (HRI.out _).mono ?_); rintro e w7 ⟨rfl, hf7⟩; have HF7 := Lib.hid (HFR.out.then0 hf7); have HP7 := Lib.hid (hf7.keep HP9.out (fun h => h)); have HR7 := Lib.hid (hf7.keep HRK.out (fun h => h)); clear hf7) | (refine PtrAsk.build_eq rfl 26 _ rfl ZERO (by kernel_rfl) ?_) | (refine wpList_store_row rfl 26 _ _ rfl w.heap.size ZERO rfl rfl 26 ZERO HR7.out info_p rfl ZERO_one ?_))
      refine fin_ct w.heap.size 26 ZERO (.int .i64 15) (by rfl) (by rfl) (by rfl) (by rfl) Try.underlying26 (by rfl) info_p (ArrKit.Bk.row HR7.out _) ?_
      exact ⟨rfl, ArrKit.Fr.row HF7.out _ _ (.inl (Nat.le_refl _))⟩

set_option maxHeartbeats 2000000 in
set_option maxRecDepth 100000 in
theorem rtake_sn_true (g o n c p : Nat) (xa : Nat) (hxa : xa ≠ 4294967295) (q1 q2 s : List UInt8) (w : World) (h1 : q1.length = 4) (h2 : q2.length = 4) (hs : s.length = 32) (e1 : num q1 = xa) (e2 : num q2 = (4294967295 : Nat)) (hrd : Rd w (some ⟨g, o + p, none⟩) (q1 ++ (q2 ++ s))) (hc : n ≤ c) (hcm : c ≤ 9223372036854775807) (hn : n ≤ 140737488351232) (hr : p + 40 ≤ n) (hrv : rightB ((xa : Int)) (-1) s = true) :
    Calls Try.prog 22 #[.slice (some ⟨g, o, none⟩) n c, .int .i64 p] w fun e w' => e = .returned (.tuple #[.agg (PC ((xa : Int)) (-1) s).toArray, .int .i64 0]) ∧ Fr0 w w' := by
  have cxa : ((xa : Int) == 4294967295) = false := by rw [beq_eq_false_iff_ne]; omega
  have d0 : decide ((p : Int) < 0) = false := decide_eq_false (by omega)
  have d1 : decide (n < p) = false := decide_eq_false (by omega)
  have d2 : decide ((n : Int) - p < 40) = false := decide_eq_false (by omega)
  have hml : (q1 ++ (q2 ++ s)).length = 40 := by simp [h1, h2, hs]
  have hx1 : num q1 < 4294967296 := by have := num_lt q1; rw [h1] at this; simpa using this
  have hx2 : num q2 < 4294967296 := by have := num_lt q2; rw [h2] at this; simpa using this
  have hq1 : ((q1 ++ (q2 ++ s)).drop 0).take 4 = q1 := by rw [List.drop_zero, List.take_left' h1]
  have hq2 : ((q1 ++ (q2 ++ s)).drop 4).take 4 = q2 := by rw [List.drop_left' h1, List.take_left' h2]
  have hgw : g < w.heap.size := by
    obtain ⟨b, o', e, hb, -⟩ := hrd.form (by omega)
    simp only [Option.some.injEq, Addr.mk.injEq] at e
    rw [e.1]; exact hb
  have HW1 : Hid (∀ W : World, Rd W (some ⟨g, o + p, none⟩) (q1 ++ (q2 ++ s)) → Calls Try.prog 21 #[.slice (some ⟨g, o, none⟩) n c, .int .i64 p, .int .i64 4] W fun e w' => e = .returned (.tuple #[.int .i64 (xa : Int), .int .i64 0]) ∧ W = w') := Lib.hid (fun W h => by
    have hs1 := h.sub 0 4
    rw [hq1] at hs1
    have := RefWord.take_ok0 g o n c p 4 q1 W h1 hs1 (by omega) (by omega) (by omega) (by omega) (by omega) (by omega) (by omega)
    rw [e1] at this
    exact this)
  have HW2 : Hid (∀ W : World, Rd W (some ⟨g, o + p, none⟩) (q1 ++ (q2 ++ s)) → Calls Try.prog 21 #[.slice (some ⟨g, o, none⟩) n c, .int .i64 ((p : Int) + 4), .int .i64 4] W fun e w' => e = .returned (.tuple #[.int .i64 4294967295, .int .i64 0]) ∧ W = w') := Lib.hid (fun W h => by
    have hs1 := h.sub 4 4
    rw [hq2, Nat.add_assoc] at hs1
    have := RefWord.take_ok0 g o n c (p + 4) 4 q2 W h2 hs1 (by omega) (by omega) (by omega) (by omega) (by omega) (by omega) (by omega)
    rw [e2] at this
    simpa using this)
  have HSC : Hid (∀ W : World, Rd W (some ⟨g, o + p, none⟩) (q1 ++ (q2 ++ s)) → ∀ j (hj : j < s.length), W.cell? ⟨g, o + (p + 8 + j), none⟩ = some (B s[j])) := Lib.hid (fun W h j hjl => by
    obtain ⟨a, ea, hca⟩ := h (8 + j) (by omega)
    obtain rfl := Option.some.inj ea
    rw [add_form] at hca
    rw [show o + (p + 8 + j) = o + p + (8 + j) by omega, hca, List.getElem_append_right (by omega), List.getElem_append_right (by omega)]
    simp [h1, h2, show 8 + j - 4 - 4 = j by omega])
  have HSL := Lib.hid hs
  have hwfa : (Lit.int .i64 ((xa : Int))).wf = true := by simp [Lit.wf, IntKind.min, IntKind.max, IntKind.signed, IntKind.bits]; omega
  have hwfb : (Lit.int .i64 (-1)).wf = true := by decide
  have HRI : Hid (∀ W : World, Calls Try.prog 35 #[.agg (PC ((xa : Int)) (-1) s).toArray] W fun e w' => e = .returned (.bool true) ∧ Fr0 W w') := Lib.hid (fun W => by
    have := rright_calls ((xa : Int)) (-1) s W hs hwfa hwfb
    rw [hrv] at this
    exact this)
  have HIQ : Hid ((Try.prog.info? 26).map (·.size) = some (PC ((xa : Int)) (-1) s).toArray.size) := Lib.hid (by rw [info_p, List.size_toArray, PC_length, hs])
  have HZQ : Hid (ZERO.size = (PC ((xa : Int)) (-1) s).toArray.size) := Lib.hid ((show ZERO.size = 34 from rfl).trans (by rw [List.size_toArray, PC_length, hs]))
  have HQO : Hid ((PC ((xa : Int)) (-1) s).toArray.all (·.oneCell') = true) := Lib.hid (by simp [PC, B, Value.oneCell'])
  have HR0 : Hid (Bk (w.alloc (.cells ZERO 26)) w.heap.size ZERO 26) := Lib.hid (Bk.new w _)
  have HF0 : Hid (Fr0 w (w.alloc (.cells ZERO 26))) := Lib.hid (Fr.alloc (Fr.refl _ _) _)
  have HD0 : Hid (Rd (w.alloc (.cells ZERO 26)) (some ⟨g, o + p, none⟩) (q1 ++ (q2 ++ s))) := Lib.hid (hrd.later HF0.out (fun _ _ h => h))
  clear hml hx1 hx2 hq1 hq2 e1 e2 hrd h1 h2 hs hwfa hwfb
  generalize q1 ++ (q2 ++ s) = m at *
  clear hrv
  go_enter Try.func22, Try.ntmps22
  go_wp2_with fail
  have hs1 : (w.alloc (.cells ZERO 26)).heap.size = w.heap.size + 1 := by simp
  have HL1 : Hid (Bk ((w.alloc (.cells ZERO 26)).alloc (.cells #[.int .i64 0, .int .i64 0] 68)) (w.heap.size + 1) #[.int .i64 0, .int .i64 0] 68) := Lib.hid (by have := Bk.new (w.alloc (.cells ZERO 26)) (.cells #[.int .i64 0, .int .i64 0] 68); rwa [hs1] at this)
  have HR1 : Hid (Bk ((w.alloc (.cells ZERO 26)).alloc (.cells #[.int .i64 0, .int .i64 0] 68)) w.heap.size ZERO 26) := Lib.hid (Bk.alloc HR0.out _)
  have HF1 : Hid (Fr0 w ((w.alloc (.cells ZERO 26)).alloc (.cells #[.int .i64 0, .int .i64 0] 68))) := Lib.hid (Fr.alloc HF0.out _)
  have HD1 : Hid (Rd ((w.alloc (.cells ZERO 26)).alloc (.cells #[.int .i64 0, .int .i64 0] 68)) (some ⟨g, o + p, none⟩) m) := Lib.hid (HD0.out.later (S := fun _ => False) (Fr.alloc (Fr.refl _ _) _) (fun _ _ h => h))
  change Code.wp _ _ _ _ ((w.alloc (.cells ZERO 26)).alloc (.cells #[.int .i64 0, .int .i64 0] 68))
  have hHg : w.heap.size + 1 ≠ g := by omega
  have hHr : w.heap.size + 1 ≠ w.heap.size := by omega
  have hwH : w.heap.size ≤ w.heap.size + 1 := by omega
  clear hs1
  generalize (w.alloc (.cells ZERO 26)).alloc (.cells #[.int .i64 0, .int .i64 0] 68) = w1 at *
  generalize w.heap.size + 1 = H at *
  have l0 : w1.cell? ⟨H, 0, none⟩ = some (.int .i64 0) := Bk.cell HL1.out 0
  have z0 : w1.frozen? ⟨H, 0, none⟩ = false := Bk.free HL1.out 0
  refine wp_loop_rounds 3 ?_
  rw [rounds_succ]
  go_wp2_with (first | (go_at_call 21; (with_reducible refine (HW1.out _ HD1.out).mono ?_); rintro e w3 ⟨rfl, rfl⟩))
  have HL4 : Hid (Bk (w1.setCell ⟨H, 0, none⟩ (.int .i64 ((xa : Int)))) H #[.int .i64 ((xa : Int)), .int .i64 0] 68) := Lib.hid (HL1.out.set 0 _)
  have HR4 : Hid (Bk (w1.setCell ⟨H, 0, none⟩ (.int .i64 ((xa : Int)))) w.heap.size ZERO 26) := Lib.hid (Bk.setOther HR1.out _ _ (Ne.symm hHr))
  have HF4 : Hid (Fr0 w (w1.setCell ⟨H, 0, none⟩ (.int .i64 ((xa : Int))))) := Lib.hid (Fr.set HF1.out _ _ (.inl hwH))
  have HD4 : Hid (Rd (w1.setCell ⟨H, 0, none⟩ (.int .i64 ((xa : Int)))) (some ⟨g, o + p, none⟩) m) := Lib.hid (HD1.out.later (S := fun i => i = H) (Fr.set (Fr.refl (fun i => i = H) _) _ _ (.inr rfl)) (fun a e => by obtain rfl := Option.some.inj e; exact Ne.symm hHg))
  clear l0 z0
  generalize w1.setCell ⟨H, 0, none⟩ (.int .i64 ((xa : Int))) = w4 at *
  have l1 : w4.cell? ⟨H, 1, none⟩ = some (.int .i64 0) := Bk.cell HL4.out 1
  have z1 : w4.frozen? ⟨H, 1, none⟩ = false := Bk.free HL4.out 1
  rw [rounds_succ]
  go_wp2_with (first | (go_at_call 21; (with_reducible refine (HW2.out _ HD4.out).mono ?_); rintro e w3 ⟨rfl, rfl⟩))
  have HL6 : Hid (Bk ((w4.setCell ⟨H, 1, none⟩ (.int .i64 (4294967295))).setCell ⟨H, 1, none⟩ (.int .i64 (-1))) H #[.int .i64 ((xa : Int)), .int .i64 (-1)] 68) := Lib.hid ((HL4.out.set 1 _).set 1 _)
  have HR6 : Hid (Bk ((w4.setCell ⟨H, 1, none⟩ (.int .i64 (4294967295))).setCell ⟨H, 1, none⟩ (.int .i64 (-1))) w.heap.size ZERO 26) := Lib.hid (Bk.setOther (Bk.setOther HR4.out _ _ (Ne.symm hHr)) _ _ (Ne.symm hHr))
  have HF6 : Hid (Fr0 w ((w4.setCell ⟨H, 1, none⟩ (.int .i64 (4294967295))).setCell ⟨H, 1, none⟩ (.int .i64 (-1)))) := Lib.hid (Fr.set (Fr.set HF4.out _ _ (.inl hwH)) _ _ (.inl hwH))
  have HD6 : Hid (Rd ((w4.setCell ⟨H, 1, none⟩ (.int .i64 (4294967295))).setCell ⟨H, 1, none⟩ (.int .i64 (-1))) (some ⟨g, o + p, none⟩) m) := Lib.hid (HD4.out.later (S := fun i => i = H) (Fr.set (Fr.set (Fr.refl (fun i => i = H) _) _ _ (.inr rfl)) _ _ (.inr rfl)) (fun a e => by obtain rfl := Option.some.inj e; exact Ne.symm hHg))
  clear l1 z1
  generalize (w4.setCell ⟨H, 1, none⟩ (.int .i64 (4294967295))).setCell ⟨H, 1, none⟩ (.int .i64 (-1)) = w6 at *
  rw [rounds_succ]
  have m0 : w6.cell? ⟨H, 0, none⟩ = some (.int .i64 ((xa : Int))) := Bk.cell HL6.out 0
  have m1 : w6.cell? ⟨H, 1, none⟩ = some (.int .i64 (-1)) := Bk.cell HL6.out 1
  have HN6 : Hid (Bk (w6.alloc (.cells ZERO 26)) w6.heap.size ZERO 26) := Lib.hid (Bk.new _ _)
  have HYI : Hid ((Try.prog.info? 26).map (·.size) = some (YL ((xa : Int)) (-1)).size) := Lib.hid info_p
  go_wp2_with (first | (refine wpList_store_row rfl 26 _ _ rfl w6.heap.size (YL ((xa : Int)) (-1)) rfl rfl 26 ZERO HN6.out HYI.out rfl (YL_one ((xa : Int)) (-1)) ?_; change wpList _ _ _ _ _ ((w6.alloc (.cells ZERO 26)).setRow w6.heap.size (YL ((xa : Int)) (-1)))))
  have hwr := Bk.lt HR6.out
  have hgG : g < w6.heap.size := by omega
  have HP8 : Hid (Bk ((w6.alloc (.cells ZERO 26)).setRow w6.heap.size (YL ((xa : Int)) (-1))) w6.heap.size (YL ((xa : Int)) (-1)) 26) := Lib.hid (ArrKit.Bk.row HN6.out _)
  have HR8 : Hid (Bk ((w6.alloc (.cells ZERO 26)).setRow w6.heap.size (YL ((xa : Int)) (-1))) w.heap.size ZERO 26) := Lib.hid (ArrKit.Bk.rowOther (Bk.alloc HR6.out _) _ (by omega))
  have HF8 : Hid (Fr0 w ((w6.alloc (.cells ZERO 26)).setRow w6.heap.size (YL ((xa : Int)) (-1)))) := Lib.hid (ArrKit.Fr.row (Fr.alloc HF6.out _) _ _ (.inl (by omega)))
  have HD8 : Hid (Rd ((w6.alloc (.cells ZERO 26)).setRow w6.heap.size (YL ((xa : Int)) (-1))) (some ⟨g, o + p, none⟩) m) := Lib.hid (HD6.out.later (S := fun i => i = w6.heap.size) (ArrKit.Fr.row (Fr.alloc (Fr.refl (fun i => i = w6.heap.size) _) _) _ _ (.inr rfl)) (fun a e => by obtain rfl := Option.some.inj e; exact Nat.ne_of_lt hgG))
  have hwG : w.heap.size ≤ w6.heap.size := Nat.le_of_lt hwr
  have hGr : w6.heap.size ≠ w.heap.size := by omega
  have HGG : Hid (g ≠ w6.heap.size) := Lib.hid (Nat.ne_of_lt hgG)
  clear m0 m1 HN6 HL6 HR6 HF6 HD6 hwr hgG
  generalize (w6.alloc (.cells ZERO 26)).setRow w6.heap.size (YL ((xa : Int)) (-1)) = w8 at *
  generalize w6.heap.size = G at *
  have HLY : Hid (lay (YL ((xa : Int)) (-1)) 2 (s.map B) = (PC ((xa : Int)) (-1) s).toArray) := Lib.hid (lay_YL ((xa : Int)) (-1) s HSL.out)
  have HYS : Hid ((YL ((xa : Int)) (-1)).size = 34) := Lib.hid rfl
  generalize YL ((xa : Int)) (-1) = bs at *
  have hbs : 34 ≤ bs.size := Nat.le_of_eq HYS.out.symm
  go_loopw [9] (fun u wr => ∃ k : Nat, k ≤ 32 ∧ u = .int .i64 k ∧ Bk wr G (lay bs 2 ((s.map B).take k)) 26 ∧ Bk wr w.heap.size ZERO 26 ∧ Rd wr (some ⟨g, o + p, none⟩) m ∧ Fr0 w wr) (fun u _ => 32 - (intOf u).toNat)
  case atStart => exact ⟨0, by omega, rfl, HP8.out, HR8.out, HD8.out, HF8.out⟩
  case round =>
    obtain ⟨k, hk, rfl, hbk, hrk, hdk, hfr⟩ := hrel
    have HBK := Lib.hid hbk
    have HRK := Lib.hid hrk
    have HDK := Lib.hid hdk
    have HFR := Lib.hid hfr
    have hlt0 : 2 + k < bs.size ∨ k = 32 := by omega
    clear hbk hrk hdk hfr
    by_cases hlt : k < 32
    · obtain ⟨v0, hv0⟩ : ∃ v0, wr.cell? ⟨G, 2 + k, none⟩ = some v0 := ⟨_, (HBK.out.cell _).trans (Array.getElem?_eq_getElem (by simp; omega))⟩
      have hfz := HBK.out.free (2 + k)
      obtain ⟨v, hv⟩ : ∃ v, (s.map B)[k]? = some (B v) ∧ s[k]'(by rw [HSL.out]; exact hlt) = v := ⟨s[k]'(by rw [HSL.out]; exact hlt), by rw [List.getElem?_map, List.getElem?_eq_getElem (by rw [HSL.out]; exact hlt)]; rfl, rfl⟩
      have hcs : wr.cell? ⟨g, o + (p + 8 + k), none⟩ = some (B v) := by rw [HSC.out wr HDK.out k (by rw [HSL.out]; exact hlt), hv.2]
      have HV := Lib.hid hv.1
      have hpk : (p : Int) + 8 + k < n := by omega
      have hvw : (0 : Int) ≤ (v.toNat : Int) := by omega
      have hvx : (v.toNat : Int) < 256 := by have := v.toNat_lt; omega
      simp only [B] at hcs
      have c9 : decide ((k : Int) < 32) = true := decide_eq_true (by omega)
      have c8 : (k : Int) < 32 := by omega
      have HLT := Lib.hid hlt
      clear hv hlt0 hbs hk hlt
      go_wp2
      have hkl : k < (s.map B).length := by have := HLT.out; rw [List.length_map, HSL.out]; exact this
      have hgl : (s.map B)[k] = .int .u8 (v.toNat : Int) := Option.some.inj ((List.getElem?_eq_getElem hkl).symm.trans HV.out)
      refine ⟨⟨k + 1, by have := HLT.out; omega, by go_num, ?_, Bk.setOther HRK.out _ _ (Ne.symm hGr), HDK.out.later (S := fun i => i = G) (Fr.set (Fr.refl (fun i => i = G) _) _ _ (.inr rfl)) (fun a e => by obtain rfl := Option.some.inj e; exact HGG.out), HFR.out.set _ _ (.inl hwG)⟩, by have := HLT.out; simp [intOf]; omega⟩
      rw [lay_take hkl, hgl]
      exact HBK.out.set _ _
    · have c9 : decide ((k : Int) < 32) = false := decide_eq_false (by omega)
      have HP9 : Hid (Bk wr G (PC ((xa : Int)) (-1) s).toArray 26) := Lib.hid (by
        have := HBK.out
        have e : (s.map B).take k = s.map B := List.take_of_length_le (by rw [List.length_map, HSL.out]; omega)
        rw [e, HLY.out] at this
        exact this)
      clear hlt0 hlt hk HBK hbs
      go_wp2_with (first | (refine wpList_load_row rfl 26 _ rfl G rfl 26 (PC ((xa : Int)) (-1) s).toArray (0, 0) _ HP9.out Try.underlying26 rfl HIQ.out ?_) | (go_at_call 35; (with_reducible refine (HRI.out _).mono ?_); rintro e w7 ⟨rfl, hf7⟩; have HF7 := Lib.hid (HFR.out.then0 hf7); have HP7 := Lib.hid (hf7.keep HP9.out (fun h => h)); have HR7 := Lib.hid (hf7.keep HRK.out (fun h => h)); clear hf7) | (refine wpList_load_row rfl 26 _ rfl G rfl 26 (PC ((xa : Int)) (-1) s).toArray (0, 0) _ HP7.out Try.underlying26 rfl HIQ.out ?_) | (refine wpList_store_row rfl 26 _ _ rfl w.heap.size (PC ((xa : Int)) (-1) s).toArray rfl rfl 26 ZERO HR7.out HIQ.out HZQ.out HQO.out ?_))
      refine fin_ct w.heap.size 26 (PC ((xa : Int)) (-1) s).toArray (.int .i64 0) (by rfl) (by rfl) (by rfl) (by rfl) Try.underlying26 (by rfl) HIQ.out (ArrKit.Bk.row HR7.out _) ?_
      exact ⟨rfl, ArrKit.Fr.row HF7.out _ _ (.inl (Nat.le_refl _))⟩

set_option maxHeartbeats 2000000 in
set_option maxRecDepth 100000 in
theorem rtake_ss_false (g o n c p : Nat) (xa : Nat) (hxa : xa ≠ 4294967295) (xb : Nat) (hxb : xb ≠ 4294967295) (q1 q2 s : List UInt8) (w : World) (h1 : q1.length = 4) (h2 : q2.length = 4) (hs : s.length = 32) (e1 : num q1 = xa) (e2 : num q2 = xb) (hrd : Rd w (some ⟨g, o + p, none⟩) (q1 ++ (q2 ++ s))) (hc : n ≤ c) (hcm : c ≤ 9223372036854775807) (hn : n ≤ 140737488351232) (hr : p + 40 ≤ n) (hrv : rightB ((xa : Int)) ((xb : Int)) s = false) :
    Calls Try.prog 22 #[.slice (some ⟨g, o, none⟩) n c, .int .i64 p] w fun e w' => e = .returned (.tuple #[.agg ZERO, .int .i64 15]) ∧ Fr0 w w' := by
  have cxa : ((xa : Int) == 4294967295) = false := by rw [beq_eq_false_iff_ne]; omega
  have cxb : ((xb : Int) == 4294967295) = false := by rw [beq_eq_false_iff_ne]; omega
  have d0 : decide ((p : Int) < 0) = false := decide_eq_false (by omega)
  have d1 : decide (n < p) = false := decide_eq_false (by omega)
  have d2 : decide ((n : Int) - p < 40) = false := decide_eq_false (by omega)
  have hml : (q1 ++ (q2 ++ s)).length = 40 := by simp [h1, h2, hs]
  have hx1 : num q1 < 4294967296 := by have := num_lt q1; rw [h1] at this; simpa using this
  have hx2 : num q2 < 4294967296 := by have := num_lt q2; rw [h2] at this; simpa using this
  have hq1 : ((q1 ++ (q2 ++ s)).drop 0).take 4 = q1 := by rw [List.drop_zero, List.take_left' h1]
  have hq2 : ((q1 ++ (q2 ++ s)).drop 4).take 4 = q2 := by rw [List.drop_left' h1, List.take_left' h2]
  have hgw : g < w.heap.size := by
    obtain ⟨b, o', e, hb, -⟩ := hrd.form (by omega)
    simp only [Option.some.injEq, Addr.mk.injEq] at e
    rw [e.1]; exact hb
  have HW1 : Hid (∀ W : World, Rd W (some ⟨g, o + p, none⟩) (q1 ++ (q2 ++ s)) → Calls Try.prog 21 #[.slice (some ⟨g, o, none⟩) n c, .int .i64 p, .int .i64 4] W fun e w' => e = .returned (.tuple #[.int .i64 (xa : Int), .int .i64 0]) ∧ W = w') := Lib.hid (fun W h => by
    have hs1 := h.sub 0 4
    rw [hq1] at hs1
    have := RefWord.take_ok0 g o n c p 4 q1 W h1 hs1 (by omega) (by omega) (by omega) (by omega) (by omega) (by omega) (by omega)
    rw [e1] at this
    exact this)
  have HW2 : Hid (∀ W : World, Rd W (some ⟨g, o + p, none⟩) (q1 ++ (q2 ++ s)) → Calls Try.prog 21 #[.slice (some ⟨g, o, none⟩) n c, .int .i64 ((p : Int) + 4), .int .i64 4] W fun e w' => e = .returned (.tuple #[.int .i64 (xb : Int), .int .i64 0]) ∧ W = w') := Lib.hid (fun W h => by
    have hs1 := h.sub 4 4
    rw [hq2, Nat.add_assoc] at hs1
    have := RefWord.take_ok0 g o n c (p + 4) 4 q2 W h2 hs1 (by omega) (by omega) (by omega) (by omega) (by omega) (by omega) (by omega)
    rw [e2] at this
    simpa using this)
  have HSC : Hid (∀ W : World, Rd W (some ⟨g, o + p, none⟩) (q1 ++ (q2 ++ s)) → ∀ j (hj : j < s.length), W.cell? ⟨g, o + (p + 8 + j), none⟩ = some (B s[j])) := Lib.hid (fun W h j hjl => by
    obtain ⟨a, ea, hca⟩ := h (8 + j) (by omega)
    obtain rfl := Option.some.inj ea
    rw [add_form] at hca
    rw [show o + (p + 8 + j) = o + p + (8 + j) by omega, hca, List.getElem_append_right (by omega), List.getElem_append_right (by omega)]
    simp [h1, h2, show 8 + j - 4 - 4 = j by omega])
  have HSL := Lib.hid hs
  have hwfa : (Lit.int .i64 ((xa : Int))).wf = true := by simp [Lit.wf, IntKind.min, IntKind.max, IntKind.signed, IntKind.bits]; omega
  have hwfb : (Lit.int .i64 ((xb : Int))).wf = true := by simp [Lit.wf, IntKind.min, IntKind.max, IntKind.signed, IntKind.bits]; omega
  have HRI : Hid (∀ W : World, Calls Try.prog 35 #[.agg (PC ((xa : Int)) ((xb : Int)) s).toArray] W fun e w' => e = .returned (.bool false) ∧ Fr0 W w') := Lib.hid (fun W => by
    have := rright_calls ((xa : Int)) ((xb : Int)) s W hs hwfa hwfb
    rw [hrv] at this
    exact this)
  have HIQ : Hid ((Try.prog.info? 26).map (·.size) = some (PC ((xa : Int)) ((xb : Int)) s).toArray.size) := Lib.hid (by rw [info_p, List.size_toArray, PC_length, hs])
  have HZQ : Hid (ZERO.size = (PC ((xa : Int)) ((xb : Int)) s).toArray.size) := Lib.hid ((show ZERO.size = 34 from rfl).trans (by rw [List.size_toArray, PC_length, hs]))
  have HQO : Hid ((PC ((xa : Int)) ((xb : Int)) s).toArray.all (·.oneCell') = true) := Lib.hid (by simp [PC, B, Value.oneCell'])
  have HR0 : Hid (Bk (w.alloc (.cells ZERO 26)) w.heap.size ZERO 26) := Lib.hid (Bk.new w _)
  have HF0 : Hid (Fr0 w (w.alloc (.cells ZERO 26))) := Lib.hid (Fr.alloc (Fr.refl _ _) _)
  have HD0 : Hid (Rd (w.alloc (.cells ZERO 26)) (some ⟨g, o + p, none⟩) (q1 ++ (q2 ++ s))) := Lib.hid (hrd.later HF0.out (fun _ _ h => h))
  clear hml hx1 hx2 hq1 hq2 e1 e2 hrd h1 h2 hs hwfa hwfb
  generalize q1 ++ (q2 ++ s) = m at *
  clear hrv
  go_enter Try.func22, Try.ntmps22
  go_wp2_with fail
  have hs1 : (w.alloc (.cells ZERO 26)).heap.size = w.heap.size + 1 := by simp
  have HL1 : Hid (Bk ((w.alloc (.cells ZERO 26)).alloc (.cells #[.int .i64 0, .int .i64 0] 68)) (w.heap.size + 1) #[.int .i64 0, .int .i64 0] 68) := Lib.hid (by have := Bk.new (w.alloc (.cells ZERO 26)) (.cells #[.int .i64 0, .int .i64 0] 68); rwa [hs1] at this)
  have HR1 : Hid (Bk ((w.alloc (.cells ZERO 26)).alloc (.cells #[.int .i64 0, .int .i64 0] 68)) w.heap.size ZERO 26) := Lib.hid (Bk.alloc HR0.out _)
  have HF1 : Hid (Fr0 w ((w.alloc (.cells ZERO 26)).alloc (.cells #[.int .i64 0, .int .i64 0] 68))) := Lib.hid (Fr.alloc HF0.out _)
  have HD1 : Hid (Rd ((w.alloc (.cells ZERO 26)).alloc (.cells #[.int .i64 0, .int .i64 0] 68)) (some ⟨g, o + p, none⟩) m) := Lib.hid (HD0.out.later (S := fun _ => False) (Fr.alloc (Fr.refl _ _) _) (fun _ _ h => h))
  change Code.wp _ _ _ _ ((w.alloc (.cells ZERO 26)).alloc (.cells #[.int .i64 0, .int .i64 0] 68))
  have hHg : w.heap.size + 1 ≠ g := by omega
  have hHr : w.heap.size + 1 ≠ w.heap.size := by omega
  have hwH : w.heap.size ≤ w.heap.size + 1 := by omega
  clear hs1
  generalize (w.alloc (.cells ZERO 26)).alloc (.cells #[.int .i64 0, .int .i64 0] 68) = w1 at *
  generalize w.heap.size + 1 = H at *
  have l0 : w1.cell? ⟨H, 0, none⟩ = some (.int .i64 0) := Bk.cell HL1.out 0
  have z0 : w1.frozen? ⟨H, 0, none⟩ = false := Bk.free HL1.out 0
  refine wp_loop_rounds 3 ?_
  rw [rounds_succ]
  go_wp2_with (first | (go_at_call 21; (with_reducible refine (HW1.out _ HD1.out).mono ?_); rintro e w3 ⟨rfl, rfl⟩))
  have HL4 : Hid (Bk (w1.setCell ⟨H, 0, none⟩ (.int .i64 ((xa : Int)))) H #[.int .i64 ((xa : Int)), .int .i64 0] 68) := Lib.hid (HL1.out.set 0 _)
  have HR4 : Hid (Bk (w1.setCell ⟨H, 0, none⟩ (.int .i64 ((xa : Int)))) w.heap.size ZERO 26) := Lib.hid (Bk.setOther HR1.out _ _ (Ne.symm hHr))
  have HF4 : Hid (Fr0 w (w1.setCell ⟨H, 0, none⟩ (.int .i64 ((xa : Int))))) := Lib.hid (Fr.set HF1.out _ _ (.inl hwH))
  have HD4 : Hid (Rd (w1.setCell ⟨H, 0, none⟩ (.int .i64 ((xa : Int)))) (some ⟨g, o + p, none⟩) m) := Lib.hid (HD1.out.later (S := fun i => i = H) (Fr.set (Fr.refl (fun i => i = H) _) _ _ (.inr rfl)) (fun a e => by obtain rfl := Option.some.inj e; exact Ne.symm hHg))
  clear l0 z0
  generalize w1.setCell ⟨H, 0, none⟩ (.int .i64 ((xa : Int))) = w4 at *
  have l1 : w4.cell? ⟨H, 1, none⟩ = some (.int .i64 0) := Bk.cell HL4.out 1
  have z1 : w4.frozen? ⟨H, 1, none⟩ = false := Bk.free HL4.out 1
  rw [rounds_succ]
  go_wp2_with (first | (go_at_call 21; (with_reducible refine (HW2.out _ HD4.out).mono ?_); rintro e w3 ⟨rfl, rfl⟩))
  have HL6 : Hid (Bk (w4.setCell ⟨H, 1, none⟩ (.int .i64 ((xb : Int)))) H #[.int .i64 ((xa : Int)), .int .i64 ((xb : Int))] 68) := Lib.hid (HL4.out.set 1 _)
  have HR6 : Hid (Bk (w4.setCell ⟨H, 1, none⟩ (.int .i64 ((xb : Int)))) w.heap.size ZERO 26) := Lib.hid (Bk.setOther HR4.out _ _ (Ne.symm hHr))
  have HF6 : Hid (Fr0 w (w4.setCell ⟨H, 1, none⟩ (.int .i64 ((xb : Int))))) := Lib.hid (Fr.set HF4.out _ _ (.inl hwH))
  have HD6 : Hid (Rd (w4.setCell ⟨H, 1, none⟩ (.int .i64 ((xb : Int)))) (some ⟨g, o + p, none⟩) m) := Lib.hid (HD4.out.later (S := fun i => i = H) (Fr.set (Fr.refl (fun i => i = H) _) _ _ (.inr rfl)) (fun a e => by obtain rfl := Option.some.inj e; exact Ne.symm hHg))
  clear l1 z1
  generalize w4.setCell ⟨H, 1, none⟩ (.int .i64 ((xb : Int))) = w6 at *
  rw [rounds_succ]
  have m0 : w6.cell? ⟨H, 0, none⟩ = some (.int .i64 ((xa : Int))) := Bk.cell HL6.out 0
  have m1 : w6.cell? ⟨H, 1, none⟩ = some (.int .i64 ((xb : Int))) := Bk.cell HL6.out 1
  have HN6 : Hid (Bk (w6.alloc (.cells ZERO 26)) w6.heap.size ZERO 26) := Lib.hid (Bk.new _ _)
  have HYI : Hid ((Try.prog.info? 26).map (·.size) = some (YL ((xa : Int)) ((xb : Int))).size) := Lib.hid info_p
  go_wp2_with (first | (refine wpList_store_row rfl 26 _ _ rfl w6.heap.size (YL ((xa : Int)) ((xb : Int))) rfl rfl 26 ZERO HN6.out HYI.out rfl (YL_one ((xa : Int)) ((xb : Int))) ?_; change wpList _ _ _ _ _ ((w6.alloc (.cells ZERO 26)).setRow w6.heap.size (YL ((xa : Int)) ((xb : Int))))))
  have hwr := Bk.lt HR6.out
  have hgG : g < w6.heap.size := by omega
  have HP8 : Hid (Bk ((w6.alloc (.cells ZERO 26)).setRow w6.heap.size (YL ((xa : Int)) ((xb : Int)))) w6.heap.size (YL ((xa : Int)) ((xb : Int))) 26) := Lib.hid (ArrKit.Bk.row HN6.out _)
  have HR8 : Hid (Bk ((w6.alloc (.cells ZERO 26)).setRow w6.heap.size (YL ((xa : Int)) ((xb : Int)))) w.heap.size ZERO 26) := Lib.hid (ArrKit.Bk.rowOther (Bk.alloc HR6.out _) _ (by omega))
  have HF8 : Hid (Fr0 w ((w6.alloc (.cells ZERO 26)).setRow w6.heap.size (YL ((xa : Int)) ((xb : Int))))) := Lib.hid (ArrKit.Fr.row (Fr.alloc HF6.out _) _ _ (.inl (by omega)))
  have HD8 : Hid (Rd ((w6.alloc (.cells ZERO 26)).setRow w6.heap.size (YL ((xa : Int)) ((xb : Int)))) (some ⟨g, o + p, none⟩) m) := Lib.hid (HD6.out.later (S := fun i => i = w6.heap.size) (ArrKit.Fr.row (Fr.alloc (Fr.refl (fun i => i = w6.heap.size) _) _) _ _ (.inr rfl)) (fun a e => by obtain rfl := Option.some.inj e; exact Nat.ne_of_lt hgG))
  have hwG : w.heap.size ≤ w6.heap.size := Nat.le_of_lt hwr
  have hGr : w6.heap.size ≠ w.heap.size := by omega
  have HGG : Hid (g ≠ w6.heap.size) := Lib.hid (Nat.ne_of_lt hgG)
  clear m0 m1 HN6 HL6 HR6 HF6 HD6 hwr hgG
  generalize (w6.alloc (.cells ZERO 26)).setRow w6.heap.size (YL ((xa : Int)) ((xb : Int))) = w8 at *
  generalize w6.heap.size = G at *
  have HLY : Hid (lay (YL ((xa : Int)) ((xb : Int))) 2 (s.map B) = (PC ((xa : Int)) ((xb : Int)) s).toArray) := Lib.hid (lay_YL ((xa : Int)) ((xb : Int)) s HSL.out)
  have HYS : Hid ((YL ((xa : Int)) ((xb : Int))).size = 34) := Lib.hid rfl
  generalize YL ((xa : Int)) ((xb : Int)) = bs at *
  have hbs : 34 ≤ bs.size := Nat.le_of_eq HYS.out.symm
  go_loopw [9] (fun u wr => ∃ k : Nat, k ≤ 32 ∧ u = .int .i64 k ∧ Bk wr G (lay bs 2 ((s.map B).take k)) 26 ∧ Bk wr w.heap.size ZERO 26 ∧ Rd wr (some ⟨g, o + p, none⟩) m ∧ Fr0 w wr) (fun u _ => 32 - (intOf u).toNat)
  case atStart => exact ⟨0, by omega, rfl, HP8.out, HR8.out, HD8.out, HF8.out⟩
  case round =>
    obtain ⟨k, hk, rfl, hbk, hrk, hdk, hfr⟩ := hrel
    have HBK := Lib.hid hbk
    have HRK := Lib.hid hrk
    have HDK := Lib.hid hdk
    have HFR := Lib.hid hfr
    have hlt0 : 2 + k < bs.size ∨ k = 32 := by omega
    clear hbk hrk hdk hfr
    by_cases hlt : k < 32
    · obtain ⟨v0, hv0⟩ : ∃ v0, wr.cell? ⟨G, 2 + k, none⟩ = some v0 := ⟨_, (HBK.out.cell _).trans (Array.getElem?_eq_getElem (by simp; omega))⟩
      have hfz := HBK.out.free (2 + k)
      obtain ⟨v, hv⟩ : ∃ v, (s.map B)[k]? = some (B v) ∧ s[k]'(by rw [HSL.out]; exact hlt) = v := ⟨s[k]'(by rw [HSL.out]; exact hlt), by rw [List.getElem?_map, List.getElem?_eq_getElem (by rw [HSL.out]; exact hlt)]; rfl, rfl⟩
      have hcs : wr.cell? ⟨g, o + (p + 8 + k), none⟩ = some (B v) := by rw [HSC.out wr HDK.out k (by rw [HSL.out]; exact hlt), hv.2]
      have HV := Lib.hid hv.1
      have hpk : (p : Int) + 8 + k < n := by omega
      have hvw : (0 : Int) ≤ (v.toNat : Int) := by omega
      have hvx : (v.toNat : Int) < 256 := by have := v.toNat_lt; omega
      simp only [B] at hcs
      have c9 : decide ((k : Int) < 32) = true := decide_eq_true (by omega)
      have c8 : (k : Int) < 32 := by omega
      have HLT := Lib.hid hlt
      clear hv hlt0 hbs hk hlt
      go_wp2
      have hkl : k < (s.map B).length := by have := HLT.out; rw [List.length_map, HSL.out]; exact this
      have hgl : (s.map B)[k] = .int .u8 (v.toNat : Int) := Option.some.inj ((List.getElem?_eq_getElem hkl).symm.trans HV.out)
      refine ⟨⟨k + 1, by have := HLT.out; omega, by go_num, ?_, Bk.setOther HRK.out _ _ (Ne.symm hGr), HDK.out.later (S := fun i => i = G) (Fr.set (Fr.refl (fun i => i = G) _) _ _ (.inr rfl)) (fun a e => by obtain rfl := Option.some.inj e; exact HGG.out), HFR.out.set _ _ (.inl hwG)⟩, by have := HLT.out; simp [intOf]; omega⟩
      rw [lay_take hkl, hgl]
      exact HBK.out.set _ _
    · have c9 : decide ((k : Int) < 32) = false := decide_eq_false (by omega)
      have HP9 : Hid (Bk wr G (PC ((xa : Int)) ((xb : Int)) s).toArray 26) := Lib.hid (by
        have := HBK.out
        have e : (s.map B).take k = s.map B := List.take_of_length_le (by rw [List.length_map, HSL.out]; omega)
        rw [e, HLY.out] at this
        exact this)
      clear hlt0 hlt hk HBK hbs
      go_wp2_with (first | (refine wpList_load_row rfl 26 _ rfl G rfl 26 (PC ((xa : Int)) ((xb : Int)) s).toArray (0, 0) _ HP9.out Try.underlying26 rfl HIQ.out ?_) | (go_at_call 35; (with_reducible refine (HRI.out _).mono ?_); rintro e w7 ⟨rfl, hf7⟩; have HF7 := Lib.hid (HFR.out.then0 hf7); have HP7 := Lib.hid (hf7.keep HP9.out (fun h => h)); have HR7 := Lib.hid (hf7.keep HRK.out (fun h => h)); clear hf7) | (refine PtrAsk.build_eq rfl 26 _ rfl ZERO (by kernel_rfl) ?_) | (refine wpList_store_row rfl 26 _ _ rfl w.heap.size ZERO rfl rfl 26 ZERO HR7.out info_p rfl ZERO_one ?_))
      refine fin_ct w.heap.size 26 ZERO (.int .i64 15) (by rfl) (by rfl) (by rfl) (by rfl) Try.underlying26 (by rfl) info_p (ArrKit.Bk.row HR7.out _) ?_
      exact ⟨rfl, ArrKit.Fr.row HF7.out _ _ (.inl (Nat.le_refl _))⟩

set_option maxHeartbeats 2000000 in
set_option maxRecDepth 100000 in
theorem rtake_ss_true (g o n c p : Nat) (xa : Nat) (hxa : xa ≠ 4294967295) (xb : Nat) (hxb : xb ≠ 4294967295) (q1 q2 s : List UInt8) (w : World) (h1 : q1.length = 4) (h2 : q2.length = 4) (hs : s.length = 32) (e1 : num q1 = xa) (e2 : num q2 = xb) (hrd : Rd w (some ⟨g, o + p, none⟩) (q1 ++ (q2 ++ s))) (hc : n ≤ c) (hcm : c ≤ 9223372036854775807) (hn : n ≤ 140737488351232) (hr : p + 40 ≤ n) (hrv : rightB ((xa : Int)) ((xb : Int)) s = true) :
    Calls Try.prog 22 #[.slice (some ⟨g, o, none⟩) n c, .int .i64 p] w fun e w' => e = .returned (.tuple #[.agg (PC ((xa : Int)) ((xb : Int)) s).toArray, .int .i64 0]) ∧ Fr0 w w' := by
  have cxa : ((xa : Int) == 4294967295) = false := by rw [beq_eq_false_iff_ne]; omega
  have cxb : ((xb : Int) == 4294967295) = false := by rw [beq_eq_false_iff_ne]; omega
  have d0 : decide ((p : Int) < 0) = false := decide_eq_false (by omega)
  have d1 : decide (n < p) = false := decide_eq_false (by omega)
  have d2 : decide ((n : Int) - p < 40) = false := decide_eq_false (by omega)
  have hml : (q1 ++ (q2 ++ s)).length = 40 := by simp [h1, h2, hs]
  have hx1 : num q1 < 4294967296 := by have := num_lt q1; rw [h1] at this; simpa using this
  have hx2 : num q2 < 4294967296 := by have := num_lt q2; rw [h2] at this; simpa using this
  have hq1 : ((q1 ++ (q2 ++ s)).drop 0).take 4 = q1 := by rw [List.drop_zero, List.take_left' h1]
  have hq2 : ((q1 ++ (q2 ++ s)).drop 4).take 4 = q2 := by rw [List.drop_left' h1, List.take_left' h2]
  have hgw : g < w.heap.size := by
    obtain ⟨b, o', e, hb, -⟩ := hrd.form (by omega)
    simp only [Option.some.injEq, Addr.mk.injEq] at e
    rw [e.1]; exact hb
  have HW1 : Hid (∀ W : World, Rd W (some ⟨g, o + p, none⟩) (q1 ++ (q2 ++ s)) → Calls Try.prog 21 #[.slice (some ⟨g, o, none⟩) n c, .int .i64 p, .int .i64 4] W fun e w' => e = .returned (.tuple #[.int .i64 (xa : Int), .int .i64 0]) ∧ W = w') := Lib.hid (fun W h => by
    have hs1 := h.sub 0 4
    rw [hq1] at hs1
    have := RefWord.take_ok0 g o n c p 4 q1 W h1 hs1 (by omega) (by omega) (by omega) (by omega) (by omega) (by omega) (by omega)
    rw [e1] at this
    exact this)
  have HW2 : Hid (∀ W : World, Rd W (some ⟨g, o + p, none⟩) (q1 ++ (q2 ++ s)) → Calls Try.prog 21 #[.slice (some ⟨g, o, none⟩) n c, .int .i64 ((p : Int) + 4), .int .i64 4] W fun e w' => e = .returned (.tuple #[.int .i64 (xb : Int), .int .i64 0]) ∧ W = w') := Lib.hid (fun W h => by
    have hs1 := h.sub 4 4
    rw [hq2, Nat.add_assoc] at hs1
    have := RefWord.take_ok0 g o n c (p + 4) 4 q2 W h2 hs1 (by omega) (by omega) (by omega) (by omega) (by omega) (by omega) (by omega)
    rw [e2] at this
    simpa using this)
  have HSC : Hid (∀ W : World, Rd W (some ⟨g, o + p, none⟩) (q1 ++ (q2 ++ s)) → ∀ j (hj : j < s.length), W.cell? ⟨g, o + (p + 8 + j), none⟩ = some (B s[j])) := Lib.hid (fun W h j hjl => by
    obtain ⟨a, ea, hca⟩ := h (8 + j) (by omega)
    obtain rfl := Option.some.inj ea
    rw [add_form] at hca
    rw [show o + (p + 8 + j) = o + p + (8 + j) by omega, hca, List.getElem_append_right (by omega), List.getElem_append_right (by omega)]
    simp [h1, h2, show 8 + j - 4 - 4 = j by omega])
  have HSL := Lib.hid hs
  have hwfa : (Lit.int .i64 ((xa : Int))).wf = true := by simp [Lit.wf, IntKind.min, IntKind.max, IntKind.signed, IntKind.bits]; omega
  have hwfb : (Lit.int .i64 ((xb : Int))).wf = true := by simp [Lit.wf, IntKind.min, IntKind.max, IntKind.signed, IntKind.bits]; omega
  have HRI : Hid (∀ W : World, Calls Try.prog 35 #[.agg (PC ((xa : Int)) ((xb : Int)) s).toArray] W fun e w' => e = .returned (.bool true) ∧ Fr0 W w') := Lib.hid (fun W => by
    have := rright_calls ((xa : Int)) ((xb : Int)) s W hs hwfa hwfb
    rw [hrv] at this
    exact this)
  have HIQ : Hid ((Try.prog.info? 26).map (·.size) = some (PC ((xa : Int)) ((xb : Int)) s).toArray.size) := Lib.hid (by rw [info_p, List.size_toArray, PC_length, hs])
  have HZQ : Hid (ZERO.size = (PC ((xa : Int)) ((xb : Int)) s).toArray.size) := Lib.hid ((show ZERO.size = 34 from rfl).trans (by rw [List.size_toArray, PC_length, hs]))
  have HQO : Hid ((PC ((xa : Int)) ((xb : Int)) s).toArray.all (·.oneCell') = true) := Lib.hid (by simp [PC, B, Value.oneCell'])
  have HR0 : Hid (Bk (w.alloc (.cells ZERO 26)) w.heap.size ZERO 26) := Lib.hid (Bk.new w _)
  have HF0 : Hid (Fr0 w (w.alloc (.cells ZERO 26))) := Lib.hid (Fr.alloc (Fr.refl _ _) _)
  have HD0 : Hid (Rd (w.alloc (.cells ZERO 26)) (some ⟨g, o + p, none⟩) (q1 ++ (q2 ++ s))) := Lib.hid (hrd.later HF0.out (fun _ _ h => h))
  clear hml hx1 hx2 hq1 hq2 e1 e2 hrd h1 h2 hs hwfa hwfb
  generalize q1 ++ (q2 ++ s) = m at *
  clear hrv
  go_enter Try.func22, Try.ntmps22
  go_wp2_with fail
  have hs1 : (w.alloc (.cells ZERO 26)).heap.size = w.heap.size + 1 := by simp
  have HL1 : Hid (Bk ((w.alloc (.cells ZERO 26)).alloc (.cells #[.int .i64 0, .int .i64 0] 68)) (w.heap.size + 1) #[.int .i64 0, .int .i64 0] 68) := Lib.hid (by have := Bk.new (w.alloc (.cells ZERO 26)) (.cells #[.int .i64 0, .int .i64 0] 68); rwa [hs1] at this)
  have HR1 : Hid (Bk ((w.alloc (.cells ZERO 26)).alloc (.cells #[.int .i64 0, .int .i64 0] 68)) w.heap.size ZERO 26) := Lib.hid (Bk.alloc HR0.out _)
  have HF1 : Hid (Fr0 w ((w.alloc (.cells ZERO 26)).alloc (.cells #[.int .i64 0, .int .i64 0] 68))) := Lib.hid (Fr.alloc HF0.out _)
  have HD1 : Hid (Rd ((w.alloc (.cells ZERO 26)).alloc (.cells #[.int .i64 0, .int .i64 0] 68)) (some ⟨g, o + p, none⟩) m) := Lib.hid (HD0.out.later (S := fun _ => False) (Fr.alloc (Fr.refl _ _) _) (fun _ _ h => h))
  change Code.wp _ _ _ _ ((w.alloc (.cells ZERO 26)).alloc (.cells #[.int .i64 0, .int .i64 0] 68))
  have hHg : w.heap.size + 1 ≠ g := by omega
  have hHr : w.heap.size + 1 ≠ w.heap.size := by omega
  have hwH : w.heap.size ≤ w.heap.size + 1 := by omega
  clear hs1
  generalize (w.alloc (.cells ZERO 26)).alloc (.cells #[.int .i64 0, .int .i64 0] 68) = w1 at *
  generalize w.heap.size + 1 = H at *
  have l0 : w1.cell? ⟨H, 0, none⟩ = some (.int .i64 0) := Bk.cell HL1.out 0
  have z0 : w1.frozen? ⟨H, 0, none⟩ = false := Bk.free HL1.out 0
  refine wp_loop_rounds 3 ?_
  rw [rounds_succ]
  go_wp2_with (first | (go_at_call 21; (with_reducible refine (HW1.out _ HD1.out).mono ?_); rintro e w3 ⟨rfl, rfl⟩))
  have HL4 : Hid (Bk (w1.setCell ⟨H, 0, none⟩ (.int .i64 ((xa : Int)))) H #[.int .i64 ((xa : Int)), .int .i64 0] 68) := Lib.hid (HL1.out.set 0 _)
  have HR4 : Hid (Bk (w1.setCell ⟨H, 0, none⟩ (.int .i64 ((xa : Int)))) w.heap.size ZERO 26) := Lib.hid (Bk.setOther HR1.out _ _ (Ne.symm hHr))
  have HF4 : Hid (Fr0 w (w1.setCell ⟨H, 0, none⟩ (.int .i64 ((xa : Int))))) := Lib.hid (Fr.set HF1.out _ _ (.inl hwH))
  have HD4 : Hid (Rd (w1.setCell ⟨H, 0, none⟩ (.int .i64 ((xa : Int)))) (some ⟨g, o + p, none⟩) m) := Lib.hid (HD1.out.later (S := fun i => i = H) (Fr.set (Fr.refl (fun i => i = H) _) _ _ (.inr rfl)) (fun a e => by obtain rfl := Option.some.inj e; exact Ne.symm hHg))
  clear l0 z0
  generalize w1.setCell ⟨H, 0, none⟩ (.int .i64 ((xa : Int))) = w4 at *
  have l1 : w4.cell? ⟨H, 1, none⟩ = some (.int .i64 0) := Bk.cell HL4.out 1
  have z1 : w4.frozen? ⟨H, 1, none⟩ = false := Bk.free HL4.out 1
  rw [rounds_succ]
  go_wp2_with (first | (go_at_call 21; (with_reducible refine (HW2.out _ HD4.out).mono ?_); rintro e w3 ⟨rfl, rfl⟩))
  have HL6 : Hid (Bk (w4.setCell ⟨H, 1, none⟩ (.int .i64 ((xb : Int)))) H #[.int .i64 ((xa : Int)), .int .i64 ((xb : Int))] 68) := Lib.hid (HL4.out.set 1 _)
  have HR6 : Hid (Bk (w4.setCell ⟨H, 1, none⟩ (.int .i64 ((xb : Int)))) w.heap.size ZERO 26) := Lib.hid (Bk.setOther HR4.out _ _ (Ne.symm hHr))
  have HF6 : Hid (Fr0 w (w4.setCell ⟨H, 1, none⟩ (.int .i64 ((xb : Int))))) := Lib.hid (Fr.set HF4.out _ _ (.inl hwH))
  have HD6 : Hid (Rd (w4.setCell ⟨H, 1, none⟩ (.int .i64 ((xb : Int)))) (some ⟨g, o + p, none⟩) m) := Lib.hid (HD4.out.later (S := fun i => i = H) (Fr.set (Fr.refl (fun i => i = H) _) _ _ (.inr rfl)) (fun a e => by obtain rfl := Option.some.inj e; exact Ne.symm hHg))
  clear l1 z1
  generalize w4.setCell ⟨H, 1, none⟩ (.int .i64 ((xb : Int))) = w6 at *
  rw [rounds_succ]
  have m0 : w6.cell? ⟨H, 0, none⟩ = some (.int .i64 ((xa : Int))) := Bk.cell HL6.out 0
  have m1 : w6.cell? ⟨H, 1, none⟩ = some (.int .i64 ((xb : Int))) := Bk.cell HL6.out 1
  have HN6 : Hid (Bk (w6.alloc (.cells ZERO 26)) w6.heap.size ZERO 26) := Lib.hid (Bk.new _ _)
  have HYI : Hid ((Try.prog.info? 26).map (·.size) = some (YL ((xa : Int)) ((xb : Int))).size) := Lib.hid info_p
  go_wp2_with (first | (refine wpList_store_row rfl 26 _ _ rfl w6.heap.size (YL ((xa : Int)) ((xb : Int))) rfl rfl 26 ZERO HN6.out HYI.out rfl (YL_one ((xa : Int)) ((xb : Int))) ?_; change wpList _ _ _ _ _ ((w6.alloc (.cells ZERO 26)).setRow w6.heap.size (YL ((xa : Int)) ((xb : Int))))))
  have hwr := Bk.lt HR6.out
  have hgG : g < w6.heap.size := by omega
  have HP8 : Hid (Bk ((w6.alloc (.cells ZERO 26)).setRow w6.heap.size (YL ((xa : Int)) ((xb : Int)))) w6.heap.size (YL ((xa : Int)) ((xb : Int))) 26) := Lib.hid (ArrKit.Bk.row HN6.out _)
  have HR8 : Hid (Bk ((w6.alloc (.cells ZERO 26)).setRow w6.heap.size (YL ((xa : Int)) ((xb : Int)))) w.heap.size ZERO 26) := Lib.hid (ArrKit.Bk.rowOther (Bk.alloc HR6.out _) _ (by omega))
  have HF8 : Hid (Fr0 w ((w6.alloc (.cells ZERO 26)).setRow w6.heap.size (YL ((xa : Int)) ((xb : Int))))) := Lib.hid (ArrKit.Fr.row (Fr.alloc HF6.out _) _ _ (.inl (by omega)))
  have HD8 : Hid (Rd ((w6.alloc (.cells ZERO 26)).setRow w6.heap.size (YL ((xa : Int)) ((xb : Int)))) (some ⟨g, o + p, none⟩) m) := Lib.hid (HD6.out.later (S := fun i => i = w6.heap.size) (ArrKit.Fr.row (Fr.alloc (Fr.refl (fun i => i = w6.heap.size) _) _) _ _ (.inr rfl)) (fun a e => by obtain rfl := Option.some.inj e; exact Nat.ne_of_lt hgG))
  have hwG : w.heap.size ≤ w6.heap.size := Nat.le_of_lt hwr
  have hGr : w6.heap.size ≠ w.heap.size := by omega
  have HGG : Hid (g ≠ w6.heap.size) := Lib.hid (Nat.ne_of_lt hgG)
  clear m0 m1 HN6 HL6 HR6 HF6 HD6 hwr hgG
  generalize (w6.alloc (.cells ZERO 26)).setRow w6.heap.size (YL ((xa : Int)) ((xb : Int))) = w8 at *
  generalize w6.heap.size = G at *
  have HLY : Hid (lay (YL ((xa : Int)) ((xb : Int))) 2 (s.map B) = (PC ((xa : Int)) ((xb : Int)) s).toArray) := Lib.hid (lay_YL ((xa : Int)) ((xb : Int)) s HSL.out)
  have HYS : Hid ((YL ((xa : Int)) ((xb : Int))).size = 34) := Lib.hid rfl
  generalize YL ((xa : Int)) ((xb : Int)) = bs at *
  have hbs : 34 ≤ bs.size := Nat.le_of_eq HYS.out.symm
  go_loopw [9] (fun u wr => ∃ k : Nat, k ≤ 32 ∧ u = .int .i64 k ∧ Bk wr G (lay bs 2 ((s.map B).take k)) 26 ∧ Bk wr w.heap.size ZERO 26 ∧ Rd wr (some ⟨g, o + p, none⟩) m ∧ Fr0 w wr) (fun u _ => 32 - (intOf u).toNat)
  case atStart => exact ⟨0, by omega, rfl, HP8.out, HR8.out, HD8.out, HF8.out⟩
  case round =>
    obtain ⟨k, hk, rfl, hbk, hrk, hdk, hfr⟩ := hrel
    have HBK := Lib.hid hbk
    have HRK := Lib.hid hrk
    have HDK := Lib.hid hdk
    have HFR := Lib.hid hfr
    have hlt0 : 2 + k < bs.size ∨ k = 32 := by omega
    clear hbk hrk hdk hfr
    by_cases hlt : k < 32
    · obtain ⟨v0, hv0⟩ : ∃ v0, wr.cell? ⟨G, 2 + k, none⟩ = some v0 := ⟨_, (HBK.out.cell _).trans (Array.getElem?_eq_getElem (by simp; omega))⟩
      have hfz := HBK.out.free (2 + k)
      obtain ⟨v, hv⟩ : ∃ v, (s.map B)[k]? = some (B v) ∧ s[k]'(by rw [HSL.out]; exact hlt) = v := ⟨s[k]'(by rw [HSL.out]; exact hlt), by rw [List.getElem?_map, List.getElem?_eq_getElem (by rw [HSL.out]; exact hlt)]; rfl, rfl⟩
      have hcs : wr.cell? ⟨g, o + (p + 8 + k), none⟩ = some (B v) := by rw [HSC.out wr HDK.out k (by rw [HSL.out]; exact hlt), hv.2]
      have HV := Lib.hid hv.1
      have hpk : (p : Int) + 8 + k < n := by omega
      have hvw : (0 : Int) ≤ (v.toNat : Int) := by omega
      have hvx : (v.toNat : Int) < 256 := by have := v.toNat_lt; omega
      simp only [B] at hcs
      have c9 : decide ((k : Int) < 32) = true := decide_eq_true (by omega)
      have c8 : (k : Int) < 32 := by omega
      have HLT := Lib.hid hlt
      clear hv hlt0 hbs hk hlt
      go_wp2
      have hkl : k < (s.map B).length := by have := HLT.out; rw [List.length_map, HSL.out]; exact this
      have hgl : (s.map B)[k] = .int .u8 (v.toNat : Int) := Option.some.inj ((List.getElem?_eq_getElem hkl).symm.trans HV.out)
      refine ⟨⟨k + 1, by have := HLT.out; omega, by go_num, ?_, Bk.setOther HRK.out _ _ (Ne.symm hGr), HDK.out.later (S := fun i => i = G) (Fr.set (Fr.refl (fun i => i = G) _) _ _ (.inr rfl)) (fun a e => by obtain rfl := Option.some.inj e; exact HGG.out), HFR.out.set _ _ (.inl hwG)⟩, by have := HLT.out; simp [intOf]; omega⟩
      rw [lay_take hkl, hgl]
      exact HBK.out.set _ _
    · have c9 : decide ((k : Int) < 32) = false := decide_eq_false (by omega)
      have HP9 : Hid (Bk wr G (PC ((xa : Int)) ((xb : Int)) s).toArray 26) := Lib.hid (by
        have := HBK.out
        have e : (s.map B).take k = s.map B := List.take_of_length_le (by rw [List.length_map, HSL.out]; omega)
        rw [e, HLY.out] at this
        exact this)
      clear hlt0 hlt hk HBK hbs
      go_wp2_with (first | (refine wpList_load_row rfl 26 _ rfl G rfl 26 (PC ((xa : Int)) ((xb : Int)) s).toArray (0, 0) _ HP9.out Try.underlying26 rfl HIQ.out ?_) | (go_at_call 35; (with_reducible refine (HRI.out _).mono ?_); rintro e w7 ⟨rfl, hf7⟩; have HF7 := Lib.hid (HFR.out.then0 hf7); have HP7 := Lib.hid (hf7.keep HP9.out (fun h => h)); have HR7 := Lib.hid (hf7.keep HRK.out (fun h => h)); clear hf7) | (refine wpList_load_row rfl 26 _ rfl G rfl 26 (PC ((xa : Int)) ((xb : Int)) s).toArray (0, 0) _ HP7.out Try.underlying26 rfl HIQ.out ?_) | (refine wpList_store_row rfl 26 _ _ rfl w.heap.size (PC ((xa : Int)) ((xb : Int)) s).toArray rfl rfl 26 ZERO HR7.out HIQ.out HZQ.out HQO.out ?_))
      refine fin_ct w.heap.size 26 (PC ((xa : Int)) ((xb : Int)) s).toArray (.int .i64 0) (by rfl) (by rfl) (by rfl) (by rfl) Try.underlying26 (by rfl) HIQ.out (ArrKit.Bk.row HR7.out _) ?_
      exact ⟨rfl, ArrKit.Fr.row HF7.out _ _ (.inl (Nat.le_refl _))⟩

theorem rtake_nn (g o n c p : Nat) (q1 q2 s : List UInt8) (w : World) (h1 : q1.length = 4) (h2 : q2.length = 4) (hs : s.length = 32) (e1 : num q1 = (4294967295 : Nat)) (e2 : num q2 = (4294967295 : Nat)) (hrd : Rd w (some ⟨g, o + p, none⟩) (q1 ++ (q2 ++ s))) (hc : n ≤ c) (hcm : c ≤ 9223372036854775807) (hn : n ≤ 140737488351232) (hr : p + 40 ≤ n) :
    Calls Try.prog 22 #[.slice (some ⟨g, o, none⟩) n c, .int .i64 p] w fun e w' => e = .returned (if rightB (-1) (-1) s then .tuple #[.agg (PC (-1) (-1) s).toArray, .int .i64 0] else .tuple #[.agg ZERO, .int .i64 15]) ∧ Fr0 w w' := by
  cases k : rightB (-1) (-1) s with
  | false => exact rtake_nn_false g o n c p q1 q2 s w h1 h2 hs e1 e2 hrd hc hcm hn hr k
  | true => exact rtake_nn_true g o n c p q1 q2 s w h1 h2 hs e1 e2 hrd hc hcm hn hr k

theorem rtake_ns (g o n c p : Nat) (xb : Nat) (hxb : xb ≠ 4294967295) (q1 q2 s : List UInt8) (w : World) (h1 : q1.length = 4) (h2 : q2.length = 4) (hs : s.length = 32) (e1 : num q1 = (4294967295 : Nat)) (e2 : num q2 = xb) (hrd : Rd w (some ⟨g, o + p, none⟩) (q1 ++ (q2 ++ s))) (hc : n ≤ c) (hcm : c ≤ 9223372036854775807) (hn : n ≤ 140737488351232) (hr : p + 40 ≤ n) :
    Calls Try.prog 22 #[.slice (some ⟨g, o, none⟩) n c, .int .i64 p] w fun e w' => e = .returned (if rightB (-1) ((xb : Int)) s then .tuple #[.agg (PC (-1) ((xb : Int)) s).toArray, .int .i64 0] else .tuple #[.agg ZERO, .int .i64 15]) ∧ Fr0 w w' := by
  cases k : rightB (-1) ((xb : Int)) s with
  | false => exact rtake_ns_false g o n c p xb hxb q1 q2 s w h1 h2 hs e1 e2 hrd hc hcm hn hr k
  | true => exact rtake_ns_true g o n c p xb hxb q1 q2 s w h1 h2 hs e1 e2 hrd hc hcm hn hr k

theorem rtake_sn (g o n c p : Nat) (xa : Nat) (hxa : xa ≠ 4294967295) (q1 q2 s : List UInt8) (w : World) (h1 : q1.length = 4) (h2 : q2.length = 4) (hs : s.length = 32) (e1 : num q1 = xa) (e2 : num q2 = (4294967295 : Nat)) (hrd : Rd w (some ⟨g, o + p, none⟩) (q1 ++ (q2 ++ s))) (hc : n ≤ c) (hcm : c ≤ 9223372036854775807) (hn : n ≤ 140737488351232) (hr : p + 40 ≤ n) :
    Calls Try.prog 22 #[.slice (some ⟨g, o, none⟩) n c, .int .i64 p] w fun e w' => e = .returned (if rightB ((xa : Int)) (-1) s then .tuple #[.agg (PC ((xa : Int)) (-1) s).toArray, .int .i64 0] else .tuple #[.agg ZERO, .int .i64 15]) ∧ Fr0 w w' := by
  cases k : rightB ((xa : Int)) (-1) s with
  | false => exact rtake_sn_false g o n c p xa hxa q1 q2 s w h1 h2 hs e1 e2 hrd hc hcm hn hr k
  | true => exact rtake_sn_true g o n c p xa hxa q1 q2 s w h1 h2 hs e1 e2 hrd hc hcm hn hr k

theorem rtake_ss (g o n c p : Nat) (xa : Nat) (hxa : xa ≠ 4294967295) (xb : Nat) (hxb : xb ≠ 4294967295) (q1 q2 s : List UInt8) (w : World) (h1 : q1.length = 4) (h2 : q2.length = 4) (hs : s.length = 32) (e1 : num q1 = xa) (e2 : num q2 = xb) (hrd : Rd w (some ⟨g, o + p, none⟩) (q1 ++ (q2 ++ s))) (hc : n ≤ c) (hcm : c ≤ 9223372036854775807) (hn : n ≤ 140737488351232) (hr : p + 40 ≤ n) :
    Calls Try.prog 22 #[.slice (some ⟨g, o, none⟩) n c, .int .i64 p] w fun e w' => e = .returned (if rightB ((xa : Int)) ((xb : Int)) s then .tuple #[.agg (PC ((xa : Int)) ((xb : Int)) s).toArray, .int .i64 0] else .tuple #[.agg ZERO, .int .i64 15]) ∧ Fr0 w w' := by
  cases k : rightB ((xa : Int)) ((xb : Int)) s with
  | false => exact rtake_ss_false g o n c p xa hxa xb hxb q1 q2 s w h1 h2 hs e1 e2 hrd hc hcm hn hr k
  | true => exact rtake_ss_true g o n c p xa hxa xb hxb q1 q2 s w h1 h2 hs e1 e2 hrd hc hcm hn hr k

/-- TAKE: what the reference answers at a place that is there. -/
theorem rtake_some (g o n c p : Nat) (m : List UInt8) (w : World) (hm : m.length = 40) (hrd : Rd w (some ⟨g, o + p, none⟩) m) (hc : n ≤ c) (hcm : c ≤ 9223372036854775807) (hn : n ≤ 140737488351232) (hr : p + 40 ≤ n) :
    Calls Try.prog 22 #[.slice (some ⟨g, o, none⟩) n c, .int .i64 p] w fun e w' => e = .returned (tkV m) ∧ Fr0 w w' := by
  have l1 : (m.take 4).length = 4 := by simp [hm]
  have l2 : ((m.drop 4).take 4).length = 4 := by simp [hm]
  have l3 : (m.drop 8).length = 32 := by simp [hm]
  rw [← split40 m hm] at hrd
  unfold tkV tkR tkA tkB tkS dec
  by_cases e1 : num (m.take 4) = 4294967295
  · by_cases e2 : num ((m.drop 4).take 4) = 4294967295
    · rw [if_pos e1, if_pos e2]
      exact rtake_nn g o n c p _ _ _ w l1 l2 l3 e1 e2 hrd hc hcm hn hr
    · rw [if_pos e1, if_neg e2]
      exact rtake_ns g o n c p _ e2 _ _ _ w l1 l2 l3 e1 rfl hrd hc hcm hn hr
  · by_cases e2 : num ((m.drop 4).take 4) = 4294967295
    · rw [if_neg e1, if_pos e2]
      exact rtake_sn g o n c p _ e1 _ _ _ w l1 l2 l3 rfl e2 hrd hc hcm hn hr
    · rw [if_neg e1, if_neg e2]
      exact rtake_ss g o n c p _ e1 _ e2 _ _ _ w l1 l2 l3 rfl rfl hrd hc hcm hn hr

end Go.Proofs.Ytfjkbabeceaelaa.PtrRTake
