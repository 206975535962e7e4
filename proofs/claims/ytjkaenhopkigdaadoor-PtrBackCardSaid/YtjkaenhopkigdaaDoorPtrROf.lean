/- A pointer to a block, as the reference makes it: the walk of lazaretref05.Of. -/
import Derived.Test.YtjkaenhopkigdaaDoorPtrOf
set_option linter.unusedVariables false
set_option linter.unusedSimpArgs false
namespace Go.Proofs.YtjkaenhopkigdaaDoor.PtrROf
open Go Go.RowKit Go.Proofs.YtjkaenhopkigdaaDoor.K Go.Proofs.YtjkaenhopkigdaaDoor.EqKit Go.Proofs.YtjkaenhopkigdaaDoor.PtrKit Go.Proofs.YtjkaenhopkigdaaDoor.ArrKit Go.Proofs.YtjkaenhopkigdaaDoor.HeldKit Go.Proofs.YtjkaenhopkigdaaDoor.PtrAsk Go.Proofs.YtjkaenhopkigdaaDoor.PtrRRight Go.Proofs.YtjkaenhopkigdaaDoor.ShaStep Go.Proofs.YtjkaenhopkigdaaDoor.ShaRef Go.Proofs.YtjkaenhopkigdaaDoor.ShaSum Go.Proofs.YtjkaenhopkigdaaDoor.ShaRSum Go.Proofs.YtjkaenhopkigdaaDoor.PtrOf

theorem build_ev {P : Program} {ops : Array Oper} {rest : List Oper} {o : Oper} {a : Act} {w : World} {Q : Exit → Act → World → Prop} (hg : o.guard = none) (t : TypeId) (parts : Array (Nat × Operand)) (ho : o.op = .build t parts) (L : List (Nat × Value))
    (hp : (parts.map fun (i, x) => (i, a.eval x)).toList = L) (cs : Array Value) (hf : P.built t L = some cs) (h : wpList P ops Q rest (a.put o.dst (.agg cs)) w) : wpList P ops Q (o :: rest) a w :=
  PtrAsk.build_eq hg t parts ho cs (by rw [hp]; exact hf) h
theorem built_ptr (a c : Int) (s : List UInt8) (hs : s.length = 32) : Tryd.prog.built 26 [(0, .int .i64 a), (1, .int .i64 c), (2, .agg (s.map B).toArray)] = some (PC a c s).toArray := by
  match s, hs with
  | [s0, s1, s2, s3, s4, s5, s6, s7, s8, s9, s10, s11, s12, s13, s14, s15, s16, s17, s18, s19, s20, s21, s22, s23, s24, s25, s26, s27, s28, s29, s30, s31], _ => (show _ = _; kernel_rfl)
set_option maxHeartbeats 2000000 in
set_option maxRecDepth 100000 in
theorem rof_no (bl : List UInt8) (hbl : bl.length = 128) (a c : Int) (w : World) (k1 : a = -1) :
    Calls Tryd.prog 11 #[.agg (bl.map B).toArray, .int .i64 a, .int .i64 c] w fun e w' => e = .returned (.tuple #[.agg ZERO, .int .i64 1]) ∧ Fr0 w w' := by
  subst k1
  have HSM : Hid (∀ (W : World), Rd W (some ⟨w.heap.size, 0, none⟩) bl → Calls Tryd.prog 19 #[.slice (some ⟨w.heap.size, 0, none⟩) 128 128] W fun e w' => e = .returned (.agg ((sumOf bl).map B).toArray) ∧ Fr0 W w') := Lib.hid (fun W h1 => rsum_calls (some ⟨w.heap.size, 0, none⟩) 128 128 bl W hbl h1 (by omega))
  have hsl := sumOf_length bl
  generalize sumOf bl = sm at *
  have HZB : Hid (Tryd.prog.built 26 [] = some ZERO) := Lib.hid (by kernel_rfl)
  have HBT := Lib.hid (built_ptr (-1) c sm hsl)
  have HIP : Hid ((Tryd.prog.info? 26).map (·.size) = some (PC (-1) c sm).toArray.size) := Lib.hid (by rw [info_p, List.size_toArray, PC_length, hsl])
  have HPZ : Hid (ZERO.size = (PC (-1) c sm).toArray.size) := Lib.hid ((show ZERO.size = 34 from rfl).trans (by rw [List.size_toArray, PC_length, hsl]))
  have HPO : Hid ((PC (-1) c sm).toArray.all (·.oneCell') = true) := Lib.hid (by simp [PC, B, Value.oneCell'])
  generalize hxx : (bl.map B).toArray = X at *
  have HXX := Lib.hid hxx
  have hs1 : (w.alloc (.cells X 22)).heap.size = w.heap.size + 1 := by simp
  have HX : Hid (Bk ((w.alloc (.cells X 22)).alloc (.cells ZERO 26)) w.heap.size X 22) := Lib.hid (Bk.alloc (Bk.new w _) _)
  have HR : Hid (Bk ((w.alloc (.cells X 22)).alloc (.cells ZERO 26)) (w.heap.size + 1) ZERO 26) := Lib.hid (by have := Bk.new (w.alloc (.cells X 22)) (.cells ZERO 26); rwa [hs1] at this)
  have HF : Hid (Fr0 w ((w.alloc (.cells X 22)).alloc (.cells ZERO 26))) := Lib.hid (Fr.alloc (Fr.alloc (Fr.refl _ _) _) _)
  have HRD : Hid (Rd ((w.alloc (.cells X 22)).alloc (.cells ZERO 26)) (some ⟨w.heap.size, 0, none⟩) bl) := Lib.hid (Rd.block HX.out (fun i hi => by rw [Nat.zero_add, ← HXX.out]; simp [hi]))
  clear hbl hsl hxx hs1
  go_enter Tryd.func11, Tryd.ntmps11
  go_wp2_with (first | (go_at_call 19; change Calls _ _ _ ((w.alloc (.cells X 22)).alloc (.cells ZERO 26)) _; (with_reducible refine (HSM.out _ HRD.out).mono ?_); rintro e w3 ⟨rfl, hf3⟩; have HR3 := Lib.hid (hf3.keep HR.out (fun h => h)); have HF3 := Lib.hid (HF.out.then0 hf3); have HP3 : Hid (Bk (w3.alloc (.cells ZERO 26)) w3.heap.size ZERO 26) := Lib.hid (Bk.new _ _); clear hf3) | (refine build_ev rfl 26 #[] rfl [] (by rfl) ZERO HZB.out ?_) | (refine build_ev rfl 26 #[(0, .tmp 9), (1, .tmp 10), (2, .tmp 12)] rfl [(0, .int .i64 (-1)), (1, .int .i64 c), (2, .agg (sm.map B).toArray)] (by simp [Act.eval]) (PC (-1) c sm).toArray HBT.out ?_) | (refine wpList_store_row rfl 26 _ _ rfl (w.heap.size + 1) ZERO rfl rfl 26 ZERO HR4.out info_p rfl ZERO_one ?_) | (refine wpList_store_row rfl 26 _ _ rfl w3.heap.size (PC (-1) c sm).toArray rfl rfl 26 ZERO HP3.out HIP.out HPZ.out HPO.out ?_; change wpList _ _ _ _ _ ((w3.alloc (.cells ZERO 26)).setRow w3.heap.size (PC (-1) c sm).toArray); have HR4 : Hid (Bk ((w3.alloc (.cells ZERO 26)).setRow w3.heap.size (PC (-1) c sm).toArray) (w.heap.size + 1) ZERO 26) := Lib.hid (ArrKit.Bk.rowOther (Bk.alloc HR3.out _) _ (by have := Bk.lt HR3.out; omega)); have HP4 : Hid (Bk ((w3.alloc (.cells ZERO 26)).setRow w3.heap.size (PC (-1) c sm).toArray) w3.heap.size (PC (-1) c sm).toArray 26) := Lib.hid (ArrKit.Bk.row HP3.out _); have HF4 : Hid (Fr0 w ((w3.alloc (.cells ZERO 26)).setRow w3.heap.size (PC (-1) c sm).toArray)) := Lib.hid (ArrKit.Fr.row (Fr.alloc HF3.out _) _ _ (.inl HF3.out.size)); generalize (w3.alloc (.cells ZERO 26)).setRow w3.heap.size (PC (-1) c sm).toArray = w4 at *))
  refine fin_ct (w.heap.size + 1) 26 ZERO (.int .i64 1) (by rfl) (by rfl) (by rfl) (by rfl) Tryd.underlying26 (by rfl) info_p (ArrKit.Bk.row HR4.out _) ?_
  exact ⟨rfl, ArrKit.Fr.row HF4.out _ _ (.inl (by omega))⟩
set_option maxHeartbeats 2000000 in
set_option maxRecDepth 100000 in
theorem rof_2 (bl : List UInt8) (hbl : bl.length = 128) (a c : Int) (w : World) (k1 : ¬ a = -1) (ha : (Lit.int .i64 a).wf = true) (hc : (Lit.int .i64 c).wf = true) (k2 : rightB a c (sumOf bl) = false) :
    Calls Tryd.prog 11 #[.agg (bl.map B).toArray, .int .i64 a, .int .i64 c] w fun e w' => e = .returned (.tuple #[.agg ZERO, .int .i64 1]) ∧ Fr0 w w' := by
  have k1' : (a == -1) = false := by rw [beq_eq_false_iff_ne]; exact k1
  have HRR : Hid (∀ W : World, Calls Tryd.prog 16 #[.agg (PC a c (sumOf bl)).toArray] W fun e w' => e = .returned (.bool false) ∧ Fr0 W w') := Lib.hid (fun W => by
    have := rright_calls a c (sumOf bl) W (sumOf_length bl) ha hc
    rw [k2] at this
    exact this)
  clear k2
  have HSM : Hid (∀ (W : World), Rd W (some ⟨w.heap.size, 0, none⟩) bl → Calls Tryd.prog 19 #[.slice (some ⟨w.heap.size, 0, none⟩) 128 128] W fun e w' => e = .returned (.agg ((sumOf bl).map B).toArray) ∧ Fr0 W w') := Lib.hid (fun W h1 => rsum_calls (some ⟨w.heap.size, 0, none⟩) 128 128 bl W hbl h1 (by omega))
  have hsl := sumOf_length bl
  generalize sumOf bl = sm at *
  have HZB : Hid (Tryd.prog.built 26 [] = some ZERO) := Lib.hid (by kernel_rfl)
  have HBT := Lib.hid (built_ptr a c sm hsl)
  have HIP : Hid ((Tryd.prog.info? 26).map (·.size) = some (PC a c sm).toArray.size) := Lib.hid (by rw [info_p, List.size_toArray, PC_length, hsl])
  have HPZ : Hid (ZERO.size = (PC a c sm).toArray.size) := Lib.hid ((show ZERO.size = 34 from rfl).trans (by rw [List.size_toArray, PC_length, hsl]))
  have HPO : Hid ((PC a c sm).toArray.all (·.oneCell') = true) := Lib.hid (by simp [PC, B, Value.oneCell'])
  generalize hxx : (bl.map B).toArray = X at *
  have HXX := Lib.hid hxx
  have hs1 : (w.alloc (.cells X 22)).heap.size = w.heap.size + 1 := by simp
  have HX : Hid (Bk ((w.alloc (.cells X 22)).alloc (.cells ZERO 26)) w.heap.size X 22) := Lib.hid (Bk.alloc (Bk.new w _) _)
  have HR : Hid (Bk ((w.alloc (.cells X 22)).alloc (.cells ZERO 26)) (w.heap.size + 1) ZERO 26) := Lib.hid (by have := Bk.new (w.alloc (.cells X 22)) (.cells ZERO 26); rwa [hs1] at this)
  have HF : Hid (Fr0 w ((w.alloc (.cells X 22)).alloc (.cells ZERO 26))) := Lib.hid (Fr.alloc (Fr.alloc (Fr.refl _ _) _) _)
  have HRD : Hid (Rd ((w.alloc (.cells X 22)).alloc (.cells ZERO 26)) (some ⟨w.heap.size, 0, none⟩) bl) := Lib.hid (Rd.block HX.out (fun i hi => by rw [Nat.zero_add, ← HXX.out]; simp [hi]))
  clear hbl hsl hxx hs1 ha hc
  go_enter Tryd.func11, Tryd.ntmps11
  go_wp2_with (first | (go_at_call 19; change Calls _ _ _ ((w.alloc (.cells X 22)).alloc (.cells ZERO 26)) _; (with_reducible refine (HSM.out _ HRD.out).mono ?_); rintro e w3 ⟨rfl, hf3⟩; have HR3 := Lib.hid (hf3.keep HR.out (fun h => h)); have HF3 := Lib.hid (HF.out.then0 hf3); have HP3 : Hid (Bk (w3.alloc (.cells ZERO 26)) w3.heap.size ZERO 26) := Lib.hid (Bk.new _ _); clear hf3) | (refine build_ev rfl 26 #[] rfl [] (by rfl) ZERO HZB.out ?_) | (refine build_ev rfl 26 #[(0, .tmp 9), (1, .tmp 10), (2, .tmp 12)] rfl [(0, .int .i64 a), (1, .int .i64 c), (2, .agg (sm.map B).toArray)] (by simp [Act.eval]) (PC a c sm).toArray HBT.out ?_) | (refine wpList_store_row rfl 26 _ _ rfl (w.heap.size + 1) ZERO rfl rfl 26 ZERO HR5.out info_p rfl ZERO_one ?_) | (refine wpList_store_row rfl 26 _ _ rfl w3.heap.size (PC a c sm).toArray rfl rfl 26 ZERO HP3.out HIP.out HPZ.out HPO.out ?_; change wpList _ _ _ _ _ ((w3.alloc (.cells ZERO 26)).setRow w3.heap.size (PC a c sm).toArray); have HR4 : Hid (Bk ((w3.alloc (.cells ZERO 26)).setRow w3.heap.size (PC a c sm).toArray) (w.heap.size + 1) ZERO 26) := Lib.hid (ArrKit.Bk.rowOther (Bk.alloc HR3.out _) _ (by have := Bk.lt HR3.out; omega)); have HP4 : Hid (Bk ((w3.alloc (.cells ZERO 26)).setRow w3.heap.size (PC a c sm).toArray) w3.heap.size (PC a c sm).toArray 26) := Lib.hid (ArrKit.Bk.row HP3.out _); have HF4 : Hid (Fr0 w ((w3.alloc (.cells ZERO 26)).setRow w3.heap.size (PC a c sm).toArray)) := Lib.hid (ArrKit.Fr.row (Fr.alloc HF3.out _) _ _ (.inl HF3.out.size)); generalize (w3.alloc (.cells ZERO 26)).setRow w3.heap.size (PC a c sm).toArray = w4 at *) | (refine wpList_load_row_g (by rfl) 26 _ rfl w3.heap.size rfl 26 (PC a c sm).toArray (0, 0) _ HP4.out Tryd.underlying26 rfl HIP.out ?_) | (go_at_call 16; (with_reducible refine (HRR.out _).mono ?_); rintro e w5 ⟨rfl, hf5⟩; have HR5 := Lib.hid (hf5.keep HR4.out (fun h => h)); have HP5 := Lib.hid (hf5.keep HP4.out (fun h => h)); have HF5 := Lib.hid (HF4.out.then0 hf5); clear hf5))
  refine fin_ct (w.heap.size + 1) 26 ZERO (.int .i64 1) (by rfl) (by rfl) (by rfl) (by rfl) Tryd.underlying26 (by rfl) info_p (ArrKit.Bk.row HR5.out _) ?_
  exact ⟨rfl, ArrKit.Fr.row HF5.out _ _ (.inl (by omega))⟩
set_option maxHeartbeats 2000000 in
set_option maxRecDepth 100000 in
theorem rof_3 (bl : List UInt8) (hbl : bl.length = 128) (a c : Int) (w : World) (k1 : ¬ a = -1) (ha : (Lit.int .i64 a).wf = true) (hc : (Lit.int .i64 c).wf = true) (k2 : rightB a c (sumOf bl) = true) :
    Calls Tryd.prog 11 #[.agg (bl.map B).toArray, .int .i64 a, .int .i64 c] w fun e w' => e = .returned (.tuple #[.agg (PC a c (sumOf bl)).toArray, .int .i64 0]) ∧ Fr0 w w' := by
  have k1' : (a == -1) = false := by rw [beq_eq_false_iff_ne]; exact k1
  have HRR : Hid (∀ W : World, Calls Tryd.prog 16 #[.agg (PC a c (sumOf bl)).toArray] W fun e w' => e = .returned (.bool true) ∧ Fr0 W w') := Lib.hid (fun W => by
    have := rright_calls a c (sumOf bl) W (sumOf_length bl) ha hc
    rw [k2] at this
    exact this)
  clear k2
  have HSM : Hid (∀ (W : World), Rd W (some ⟨w.heap.size, 0, none⟩) bl → Calls Tryd.prog 19 #[.slice (some ⟨w.heap.size, 0, none⟩) 128 128] W fun e w' => e = .returned (.agg ((sumOf bl).map B).toArray) ∧ Fr0 W w') := Lib.hid (fun W h1 => rsum_calls (some ⟨w.heap.size, 0, none⟩) 128 128 bl W hbl h1 (by omega))
  have hsl := sumOf_length bl
  generalize sumOf bl = sm at *
  have HZB : Hid (Tryd.prog.built 26 [] = some ZERO) := Lib.hid (by kernel_rfl)
  have HBT := Lib.hid (built_ptr a c sm hsl)
  have HIP : Hid ((Tryd.prog.info? 26).map (·.size) = some (PC a c sm).toArray.size) := Lib.hid (by rw [info_p, List.size_toArray, PC_length, hsl])
  have HPZ : Hid (ZERO.size = (PC a c sm).toArray.size) := Lib.hid ((show ZERO.size = 34 from rfl).trans (by rw [List.size_toArray, PC_length, hsl]))
  have HPO : Hid ((PC a c sm).toArray.all (·.oneCell') = true) := Lib.hid (by simp [PC, B, Value.oneCell'])
  generalize hxx : (bl.map B).toArray = X at *
  have HXX := Lib.hid hxx
  have hs1 : (w.alloc (.cells X 22)).heap.size = w.heap.size + 1 := by simp
  have HX : Hid (Bk ((w.alloc (.cells X 22)).alloc (.cells ZERO 26)) w.heap.size X 22) := Lib.hid (Bk.alloc (Bk.new w _) _)
  have HR : Hid (Bk ((w.alloc (.cells X 22)).alloc (.cells ZERO 26)) (w.heap.size + 1) ZERO 26) := Lib.hid (by have := Bk.new (w.alloc (.cells X 22)) (.cells ZERO 26); rwa [hs1] at this)
  have HF : Hid (Fr0 w ((w.alloc (.cells X 22)).alloc (.cells ZERO 26))) := Lib.hid (Fr.alloc (Fr.alloc (Fr.refl _ _) _) _)
  have HRD : Hid (Rd ((w.alloc (.cells X 22)).alloc (.cells ZERO 26)) (some ⟨w.heap.size, 0, none⟩) bl) := Lib.hid (Rd.block HX.out (fun i hi => by rw [Nat.zero_add, ← HXX.out]; simp [hi]))
  clear hbl hsl hxx hs1 ha hc
  go_enter Tryd.func11, Tryd.ntmps11
  go_wp2_with (first | (go_at_call 19; change Calls _ _ _ ((w.alloc (.cells X 22)).alloc (.cells ZERO 26)) _; (with_reducible refine (HSM.out _ HRD.out).mono ?_); rintro e w3 ⟨rfl, hf3⟩; have HR3 := Lib.hid (hf3.keep HR.out (fun h => h)); have HF3 := Lib.hid (HF.out.then0 hf3); have HP3 : Hid (Bk (w3.alloc (.cells ZERO 26)) w3.heap.size ZERO 26) := Lib.hid (Bk.new _ _); clear hf3) | (refine build_ev rfl 26 #[] rfl [] (by rfl) ZERO HZB.out ?_) | (refine build_ev rfl 26 #[(0, .tmp 9), (1, .tmp 10), (2, .tmp 12)] rfl [(0, .int .i64 a), (1, .int .i64 c), (2, .agg (sm.map B).toArray)] (by simp [Act.eval]) (PC a c sm).toArray HBT.out ?_) | (refine wpList_store_row rfl 26 _ _ rfl (w.heap.size + 1) ZERO rfl rfl 26 ZERO HR5.out info_p rfl ZERO_one ?_) | (refine wpList_store_row rfl 26 _ _ rfl w3.heap.size (PC a c sm).toArray rfl rfl 26 ZERO HP3.out HIP.out HPZ.out HPO.out ?_; change wpList _ _ _ _ _ ((w3.alloc (.cells ZERO 26)).setRow w3.heap.size (PC a c sm).toArray); have HR4 : Hid (Bk ((w3.alloc (.cells ZERO 26)).setRow w3.heap.size (PC a c sm).toArray) (w.heap.size + 1) ZERO 26) := Lib.hid (ArrKit.Bk.rowOther (Bk.alloc HR3.out _) _ (by have := Bk.lt HR3.out; omega)); have HP4 : Hid (Bk ((w3.alloc (.cells ZERO 26)).setRow w3.heap.size (PC a c sm).toArray) w3.heap.size (PC a c sm).toArray 26) := Lib.hid (ArrKit.Bk.row HP3.out _); have HF4 : Hid (Fr0 w ((w3.alloc (.cells ZERO 26)).setRow w3.heap.size (PC a c sm).toArray)) := Lib.hid (ArrKit.Fr.row (Fr.alloc HF3.out _) _ _ (.inl HF3.out.size)); generalize (w3.alloc (.cells ZERO 26)).setRow w3.heap.size (PC a c sm).toArray = w4 at *) | (refine wpList_load_row_g (by rfl) 26 _ rfl w3.heap.size rfl 26 (PC a c sm).toArray (0, 0) _ HP4.out Tryd.underlying26 rfl HIP.out ?_) | (go_at_call 16; (with_reducible refine (HRR.out _).mono ?_); rintro e w5 ⟨rfl, hf5⟩; have HR5 := Lib.hid (hf5.keep HR4.out (fun h => h)); have HP5 := Lib.hid (hf5.keep HP4.out (fun h => h)); have HF5 := Lib.hid (HF4.out.then0 hf5); clear hf5) | (refine wpList_load_row rfl 26 _ rfl w3.heap.size rfl 26 (PC a c sm).toArray (0, 0) _ HP5.out Tryd.underlying26 rfl HIP.out ?_) | (refine wpList_store_row rfl 26 _ _ rfl (w.heap.size + 1) (PC a c sm).toArray rfl rfl 26 ZERO HR5.out HIP.out HPZ.out HPO.out ?_))
  refine fin_ct (w.heap.size + 1) 26 (PC a c sm).toArray (.int .i64 0) (by rfl) (by rfl) (by rfl) (by rfl) Tryd.underlying26 (by rfl) HIP.out (ArrKit.Bk.row HR5.out _) ?_
  exact ⟨rfl, ArrKit.Fr.row HF5.out _ _ (.inl (by omega))⟩
theorem rof_calls (bl : List UInt8) (hbl : bl.length = 128) (a c : Int) (w : World) (ha : (Lit.int .i64 a).wf = true) (hc : (Lit.int .i64 c).wf = true) :
    Calls Tryd.prog 11 #[.agg (bl.map B).toArray, .int .i64 a, .int .i64 c] w fun e w' => e = .returned (.tuple #[.agg (ofP bl a c), .int .i64 (ofE a c)]) ∧ Fr0 w w' := by
  by_cases k1 : a = -1
  · have e : okB a c = false := by
      have : secB a = false := by rw [k1]; rfl
      rw [okB, this, Bool.false_and]
    have := rof_no bl hbl a c w k1
    simpa only [ofP, ofE, e, Bool.false_eq_true, if_false] using this
  · have hr := right_ok a c (sumOf bl) k1
    cases k2 : okB a c with
    | false =>
      have := rof_2 bl hbl a c w k1 ha hc (hr.trans k2)
      simpa only [ofP, ofE, k2, Bool.false_eq_true, if_false] using this
    | true =>
      have := rof_3 bl hbl a c w k1 ha hc (hr.trans k2)
      simpa only [ofP, ofE, k2, if_true] using this

end Go.Proofs.YtjkaenhopkigdaaDoor.PtrROf
