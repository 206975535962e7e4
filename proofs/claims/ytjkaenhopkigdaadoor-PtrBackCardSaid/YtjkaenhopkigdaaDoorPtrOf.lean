/- A pointer to a block: the walks of ptr.Of and of the reference's. -/
import Derived.Test.YtjkaenhopkigdaaDoorPtrRRight
import Derived.Test.YtjkaenhopkigdaaDoorShaRSum
set_option linter.unusedVariables false
set_option linter.unusedSimpArgs false
namespace Go.Proofs.YtjkaenhopkigdaaDoor.PtrOf
open Go Go.RowKit Go.Proofs.YtjkaenhopkigdaaDoor.K Go.Proofs.YtjkaenhopkigdaaDoor.EqKit Go.Proofs.YtjkaenhopkigdaaDoor.PtrKit Go.Proofs.YtjkaenhopkigdaaDoor.ArrKit Go.Proofs.YtjkaenhopkigdaaDoor.HeldKit Go.Proofs.YtjkaenhopkigdaaDoor.PtrAsk Go.Proofs.YtjkaenhopkigdaaDoor.PtrRRight Go.Proofs.YtjkaenhopkigdaaDoor.ShaStep Go.Proofs.YtjkaenhopkigdaaDoor.ShaRef Go.Proofs.YtjkaenhopkigdaaDoor.ShaSum Go.Proofs.YtjkaenhopkigdaaDoor.ShaRSum

theorem wpList_load_row_g {P : Program} {ops : Array Oper} {rest : List Oper} {o : Oper} {a : Act} {w : World} {Q : Exit → Act → World → Prop} (hw : Region.wanted o (yielded ops a.tmps) = true) (ty : TypeId) (x : Operand) (ho : o.op = .load ty x)
    (g : Nat) (hx : a.eval x = .pointer (some ⟨g, 0, none⟩)) (t : TypeId) (cs : Array Value) (fr : Nat × Nat) (d : TypeDesc) (hg : w.heap[g]? = some (.cells cs t fr))
    (hu : P.underlying ty = some d) (hd : (match d with | .struct _ | .array _ _ => true | _ => false) = true) (hi : (P.info? ty).map (·.size) = some cs.size)
    (h : wpList P ops Q rest (a.put o.dst (.agg cs)) w) : wpList P ops Q (o :: rest) a w := by
  unfold wpList
  rw [if_pos hw]
  exact Or.inl (wp_load_row ty x ho g hx t cs fr d hg hu hd hi h)
theorem sets_bk {g : Nat} {t : TypeId} : ∀ (vs : List Value) (o : Nat) (w : World) (cs : Array Value), Bk w g cs t → Bk (w.setCells g o vs) g (lay cs o vs) t
  | [], _, _, _, h => h
  | v :: r, o, w, cs, h => sets_bk r (o + 1) _ _ (h.set o v)
theorem sets_fr {g : Nat} {w0 : World} : ∀ (vs : List Value) (o : Nat) (w : World), Fr (· = g) w0 w → Fr (· = g) w0 (w.setCells g o vs)
  | [], _, _, h => h
  | v :: r, o, w, h => sets_fr r (o + 1) _ (h.set _ _ (.inr rfl))
def okB (a c : Int) : Bool := secB a && (decide (c = -1) || (secB c && !decide (c = a)))
def YL (a c : Int) : Array Value := #[.int .i64 a, .int .i64 c, .int .u8 0, .int .u8 0, .int .u8 0, .int .u8 0, .int .u8 0, .int .u8 0, .int .u8 0, .int .u8 0, .int .u8 0, .int .u8 0, .int .u8 0, .int .u8 0, .int .u8 0, .int .u8 0, .int .u8 0, .int .u8 0, .int .u8 0, .int .u8 0, .int .u8 0, .int .u8 0, .int .u8 0, .int .u8 0, .int .u8 0, .int .u8 0, .int .u8 0, .int .u8 0, .int .u8 0, .int .u8 0, .int .u8 0, .int .u8 0, .int .u8 0, .int .u8 0]
theorem YL_eq (a c : Int) : YL a c = (PC a c Z).toArray := rfl
theorem YL_one (a c : Int) : (YL a c).all (·.oneCell') = true := by simp [YL, Value.oneCell']
theorem ZERO_one : ZERO.all (·.oneCell') = true := by kernel_rfl
theorem lay_YL (a c : Int) (s : List UInt8) (hs : s.length = 32) : lay (YL a c) 2 (s.map B).toArray.toList = (PC a c s).toArray := by
  apply Array.ext_getElem?
  intro i
  rw [lay_get]
  simp only [List.length_map, hs]
  have h34 : (YL a c).size = 34 := rfl
  by_cases h : 2 ≤ i ∧ i < 2 + 32 ∧ i < (YL a c).size
  · rw [if_pos h]
    obtain ⟨j, rfl⟩ : ∃ j, i = j + 2 := ⟨i - 2, by omega⟩
    simp [PC]
  · rw [if_neg h]
    match i, h with
    | 0, _ => rfl
    | 1, _ => rfl
    | j + 2, h => rw [Array.getElem?_eq_none (by omega), Array.getElem?_eq_none (by simp [PC, hs]; omega)]
theorem there_YL {w : World} {g : Nat} {t : TypeId} {a c : Int} {n : Nat} (h : Bk w g (YL a c) t) (hn : n = 32) : w.there g 2 n := fun j hj => ⟨by
  have h34 : (YL a c).size = 34 := rfl
  rw [Bk.cell h, Array.getElem?_eq_getElem (by omega)]
  rfl, Bk.free h _⟩
theorem set_YL {w : World} {g : Nat} {t : TypeId} {a c : Int} {s : List UInt8} (h : Bk w g (YL a c) t) (hs : s.length = 32) : Bk (w.setCells g 2 (s.map B).toArray.toList) g (PC a c s).toArray t := by
  have := sets_bk (s.map B).toArray.toList 2 _ _ h
  rw [lay_YL a c s hs] at this
  exact this
theorem sec_eq (n : Int) (r : Bool) (w : World) (h : secB n = r) : Calls Tryd.prog 30 #[.int .i64 n] w fun e w' => e = .returned (.bool r) ∧ w = w' := h ▸ sec_calls n w
set_option maxHeartbeats 2000000 in
set_option maxRecDepth 100000 in
theorem of_no1 (bl : List UInt8) (a c : Int) (w : World) (k1 : Hid (secB a = false)) :
    Calls Tryd.prog 10 #[.agg (bl.map B).toArray, .int .i64 a, .int .i64 c] w fun e w' => e = .returned (.tuple #[.agg ZERO, .int .i64 1]) ∧ Fr0 w w' := by
  generalize (bl.map B).toArray = X
  have HI : Hid ((Tryd.prog.info? 26).map (·.size) = some (YL a c).size) := Lib.hid info_p
  have hs2 : ((w.alloc (.cells X 22)).alloc (.cells ZERO 26)).heap.size = w.heap.size + 1 + 1 := by simp
  have HNP : Hid (Bk (((w.alloc (.cells X 22)).alloc (.cells ZERO 26)).alloc (.cells ZERO 26)) (w.heap.size + 1 + 1) ZERO 26) := Lib.hid (by have := Bk.new ((w.alloc (.cells X 22)).alloc (.cells ZERO 26)) (.cells ZERO 26); rwa [hs2] at this)
  have hs1 : (w.alloc (.cells X 22)).heap.size = w.heap.size + 1 := by simp
  have HNR : Hid (Bk (((w.alloc (.cells X 22)).alloc (.cells ZERO 26)).alloc (.cells ZERO 26)) (w.heap.size + 1) ZERO 26) := Lib.hid (Bk.alloc (by have := Bk.new (w.alloc (.cells X 22)) (.cells ZERO 26); rwa [hs1] at this) _)
  have HNX : Hid (Bk (((w.alloc (.cells X 22)).alloc (.cells ZERO 26)).alloc (.cells ZERO 26)) w.heap.size X 22) := Lib.hid (Bk.alloc (Bk.alloc (Bk.new w _) _) _)
  have HNF : Hid (Fr0 w (((w.alloc (.cells X 22)).alloc (.cells ZERO 26)).alloc (.cells ZERO 26))) := Lib.hid (Fr.alloc (Fr.alloc (Fr.alloc (Fr.refl _ _) _) _) _)
  have GP : Hid (Bk ((((w.alloc (.cells X 22)).alloc (.cells ZERO 26)).alloc (.cells ZERO 26)).setRow (w.heap.size + 1 + 1) (YL a c)) (w.heap.size + 1 + 1) (YL a c) 26) := Lib.hid (ArrKit.Bk.row HNP.out _)
  have GR : Hid (Bk ((((w.alloc (.cells X 22)).alloc (.cells ZERO 26)).alloc (.cells ZERO 26)).setRow (w.heap.size + 1 + 1) (YL a c)) (w.heap.size + 1) ZERO 26) := Lib.hid (ArrKit.Bk.rowOther HNR.out _ (by omega))
  have GX : Hid (Bk ((((w.alloc (.cells X 22)).alloc (.cells ZERO 26)).alloc (.cells ZERO 26)).setRow (w.heap.size + 1 + 1) (YL a c)) w.heap.size X 22) := Lib.hid (ArrKit.Bk.rowOther HNX.out _ (by omega))
  have GF : Hid (Fr0 w ((((w.alloc (.cells X 22)).alloc (.cells ZERO 26)).alloc (.cells ZERO 26)).setRow (w.heap.size + 1 + 1) (YL a c))) := Lib.hid (ArrKit.Fr.row HNF.out _ _ (.inl (by omega)))
  clear hs1 hs2
  generalize hw3 : (((w.alloc (.cells X 22)).alloc (.cells ZERO 26)).alloc (.cells ZERO 26)).setRow (w.heap.size + 1 + 1) (YL a c) = w3 at *
  go_enter Tryd.func10, Tryd.ntmps10
  go_wp2_with (first | (refine wpList_store_row rfl 26 _ _ rfl (w.heap.size + 1 + 1) (YL a c) rfl rfl 26 ZERO HNP.out HI.out (by rfl) (YL_one a c) ?_; change wpList _ _ _ _ _ ((((w.alloc (.cells X 22)).alloc (.cells ZERO 26)).alloc (.cells ZERO 26)).setRow (w.heap.size + 1 + 1) (YL a c)); rw [hw3]) | (refine wpList_store_row rfl 26 _ _ rfl (w.heap.size + 1) ZERO rfl rfl 26 ZERO GR.out info_p rfl ZERO_one ?_) | (go_at_call 30; (with_reducible refine (sec_eq a false _ k1.out).mono ?_); rintro e w2 ⟨rfl, rfl⟩))
  refine fin_ct (w.heap.size + 1) 26 ZERO (.int .i64 1) (by rfl) (by rfl) (by rfl) (by rfl) Tryd.underlying26 (by rfl) info_p (ArrKit.Bk.row GR.out _) ?_
  exact ⟨rfl, ArrKit.Fr.row GF.out _ _ (.inl (by omega))⟩
set_option maxHeartbeats 2000000 in
set_option maxRecDepth 100000 in
theorem of_no2 (bl : List UInt8) (a c : Int) (w : World) (k1 : Hid (secB a = true)) (ha : (Lit.int .i64 a).wf = true) (hc : (Lit.int .i64 c).wf = true) (k2 : rightB a c Z = false) :
    Calls Tryd.prog 10 #[.agg (bl.map B).toArray, .int .i64 a, .int .i64 c] w fun e w' => e = .returned (.tuple #[.agg ZERO, .int .i64 1]) ∧ Fr0 w w' := by
  have HRT : Hid (∀ w, Calls Tryd.prog 15 #[.agg (YL a c)] w fun e w' => e = .returned (.bool false) ∧ Fr0 w w') := Lib.hid (fun w => by
    have := right_calls a c Z w Z_len ha hc
    rwa [k2, ← YL_eq] at this)
  clear ha hc k2
  generalize (bl.map B).toArray = X
  have HI : Hid ((Tryd.prog.info? 26).map (·.size) = some (YL a c).size) := Lib.hid info_p
  have hs2 : ((w.alloc (.cells X 22)).alloc (.cells ZERO 26)).heap.size = w.heap.size + 1 + 1 := by simp
  have HNP : Hid (Bk (((w.alloc (.cells X 22)).alloc (.cells ZERO 26)).alloc (.cells ZERO 26)) (w.heap.size + 1 + 1) ZERO 26) := Lib.hid (by have := Bk.new ((w.alloc (.cells X 22)).alloc (.cells ZERO 26)) (.cells ZERO 26); rwa [hs2] at this)
  have hs1 : (w.alloc (.cells X 22)).heap.size = w.heap.size + 1 := by simp
  have HNR : Hid (Bk (((w.alloc (.cells X 22)).alloc (.cells ZERO 26)).alloc (.cells ZERO 26)) (w.heap.size + 1) ZERO 26) := Lib.hid (Bk.alloc (by have := Bk.new (w.alloc (.cells X 22)) (.cells ZERO 26); rwa [hs1] at this) _)
  have HNX : Hid (Bk (((w.alloc (.cells X 22)).alloc (.cells ZERO 26)).alloc (.cells ZERO 26)) w.heap.size X 22) := Lib.hid (Bk.alloc (Bk.alloc (Bk.new w _) _) _)
  have HNF : Hid (Fr0 w (((w.alloc (.cells X 22)).alloc (.cells ZERO 26)).alloc (.cells ZERO 26))) := Lib.hid (Fr.alloc (Fr.alloc (Fr.alloc (Fr.refl _ _) _) _) _)
  have GP : Hid (Bk ((((w.alloc (.cells X 22)).alloc (.cells ZERO 26)).alloc (.cells ZERO 26)).setRow (w.heap.size + 1 + 1) (YL a c)) (w.heap.size + 1 + 1) (YL a c) 26) := Lib.hid (ArrKit.Bk.row HNP.out _)
  have GR : Hid (Bk ((((w.alloc (.cells X 22)).alloc (.cells ZERO 26)).alloc (.cells ZERO 26)).setRow (w.heap.size + 1 + 1) (YL a c)) (w.heap.size + 1) ZERO 26) := Lib.hid (ArrKit.Bk.rowOther HNR.out _ (by omega))
  have GX : Hid (Bk ((((w.alloc (.cells X 22)).alloc (.cells ZERO 26)).alloc (.cells ZERO 26)).setRow (w.heap.size + 1 + 1) (YL a c)) w.heap.size X 22) := Lib.hid (ArrKit.Bk.rowOther HNX.out _ (by omega))
  have GF : Hid (Fr0 w ((((w.alloc (.cells X 22)).alloc (.cells ZERO 26)).alloc (.cells ZERO 26)).setRow (w.heap.size + 1 + 1) (YL a c))) := Lib.hid (ArrKit.Fr.row HNF.out _ _ (.inl (by omega)))
  clear hs1 hs2
  generalize hw3 : (((w.alloc (.cells X 22)).alloc (.cells ZERO 26)).alloc (.cells ZERO 26)).setRow (w.heap.size + 1 + 1) (YL a c) = w3 at *
  go_enter Tryd.func10, Tryd.ntmps10
  go_wp2_with (first | (refine wpList_store_row rfl 26 _ _ rfl (w.heap.size + 1 + 1) (YL a c) rfl rfl 26 ZERO HNP.out HI.out (by rfl) (YL_one a c) ?_; change wpList _ _ _ _ _ ((((w.alloc (.cells X 22)).alloc (.cells ZERO 26)).alloc (.cells ZERO 26)).setRow (w.heap.size + 1 + 1) (YL a c)); rw [hw3]) | (refine wpList_store_row rfl 26 _ _ rfl (w.heap.size + 1) ZERO rfl rfl 26 ZERO GR5.out info_p rfl ZERO_one ?_) | (go_at_call 30; (with_reducible refine (sec_eq a true _ k1.out).mono ?_); rintro e w2 ⟨rfl, rfl⟩) | (refine wpList_load_row_g (by rfl) 26 _ rfl (w.heap.size + 1 + 1) rfl 26 (YL a c) (0, 0) _ GP.out Tryd.underlying26 rfl HI.out ?_) | (go_at_call 15; (refine (HRT.out _).mono ?_); rintro e w5 ⟨rfl, hf5⟩; have GR5 : Hid (Bk w5 (w.heap.size + 1) ZERO 26) := Lib.hid (hf5.keep GR.out (fun h => h)); have GF5 := Lib.hid (GF.out.then0 hf5); clear hf5))
  refine fin_ct (w.heap.size + 1) 26 ZERO (.int .i64 1) (by rfl) (by rfl) (by rfl) (by rfl) Tryd.underlying26 (by rfl) info_p (ArrKit.Bk.row GR5.out _) ?_
  exact ⟨rfl, ArrKit.Fr.row GF5.out _ _ (.inl (by omega))⟩
set_option maxHeartbeats 2000000 in
set_option maxRecDepth 100000 in
theorem of_yes (bl : List UInt8) (hbl : bl.length = 128) (a c : Int) (w : World) (k1 : Hid (secB a = true)) (ha : (Lit.int .i64 a).wf = true) (hc : (Lit.int .i64 c).wf = true) (k2 : rightB a c Z = true) {tk tb : TypeId} (hK : Bk w 1 KC tk) (hB : Bk w 0 HB8 tb) :
    Calls Tryd.prog 10 #[.agg (bl.map B).toArray, .int .i64 a, .int .i64 c] w fun e w' => e = .returned (.tuple #[.agg (PC a c (sumOf bl)).toArray, .int .i64 0]) ∧ Fr0 w w' := by
  have HRT : Hid (∀ w, Calls Tryd.prog 15 #[.agg (YL a c)] w fun e w' => e = .returned (.bool true) ∧ Fr0 w w') := Lib.hid (fun w => by
    have := right_calls a c Z w Z_len ha hc
    rwa [k2, ← YL_eq] at this)
  have HK := Lib.hid hK
  have HB := Lib.hid hB
  have HBL := Lib.hid hbl
  have HSM : Hid (∀ (W : World), Rd W (some ⟨w.heap.size, 0, none⟩) bl → Bk W 1 KC tk → Bk W 0 HB8 tb → Calls Tryd.prog 31 #[.slice (some ⟨w.heap.size, 0, none⟩) 128 128] W fun e w' => e = .returned (.agg ((sumOf bl).map B).toArray) ∧ Fr0 W w') := Lib.hid (fun W h1 h2 h3 => sum_calls (some ⟨w.heap.size, 0, none⟩) 128 128 bl W hbl h1 (by omega) h2 h3)
  have hsl := sumOf_length bl
  generalize sumOf bl = sm at *
  have HSL := Lib.hid hsl
  have HIS : Hid ((Tryd.prog.info? 24).map (·.size) = some ((sm).map B).toArray.size) := Lib.hid (by rw [info32a, List.size_toArray, List.length_map, HSL.out])
  have HSO : Hid (((sm).map B).toArray.all (·.oneCell') = true) := Lib.hid (by simp [B, Value.oneCell'])
  have HIP : Hid ((Tryd.prog.info? 26).map (·.size) = some (PC a c (sm)).toArray.size) := Lib.hid (by rw [info_p, List.size_toArray, PC_length, HSL.out])
  have HPZ : Hid (ZERO.size = (PC a c (sm)).toArray.size) := Lib.hid ((show ZERO.size = 34 from rfl).trans (by rw [List.size_toArray, PC_length, HSL.out]))
  have HPO : Hid ((PC a c (sm)).toArray.all (·.oneCell') = true) := Lib.hid (by simp [PC, B, Value.oneCell'])
  clear ha hc k2 hK hB hbl hsl
  generalize hxx : (bl.map B).toArray = X at *
  have HXX := Lib.hid hxx
  clear hxx
  have HI : Hid ((Tryd.prog.info? 26).map (·.size) = some (YL a c).size) := Lib.hid info_p
  have hs2 : ((w.alloc (.cells X 22)).alloc (.cells ZERO 26)).heap.size = w.heap.size + 1 + 1 := by simp
  have HNP : Hid (Bk (((w.alloc (.cells X 22)).alloc (.cells ZERO 26)).alloc (.cells ZERO 26)) (w.heap.size + 1 + 1) ZERO 26) := Lib.hid (by have := Bk.new ((w.alloc (.cells X 22)).alloc (.cells ZERO 26)) (.cells ZERO 26); rwa [hs2] at this)
  have hs1 : (w.alloc (.cells X 22)).heap.size = w.heap.size + 1 := by simp
  have HNR : Hid (Bk (((w.alloc (.cells X 22)).alloc (.cells ZERO 26)).alloc (.cells ZERO 26)) (w.heap.size + 1) ZERO 26) := Lib.hid (Bk.alloc (by have := Bk.new (w.alloc (.cells X 22)) (.cells ZERO 26); rwa [hs1] at this) _)
  have HNX : Hid (Bk (((w.alloc (.cells X 22)).alloc (.cells ZERO 26)).alloc (.cells ZERO 26)) w.heap.size X 22) := Lib.hid (Bk.alloc (Bk.alloc (Bk.new w _) _) _)
  have HNF : Hid (Fr0 w (((w.alloc (.cells X 22)).alloc (.cells ZERO 26)).alloc (.cells ZERO 26))) := Lib.hid (Fr.alloc (Fr.alloc (Fr.alloc (Fr.refl _ _) _) _) _)
  have GP : Hid (Bk ((((w.alloc (.cells X 22)).alloc (.cells ZERO 26)).alloc (.cells ZERO 26)).setRow (w.heap.size + 1 + 1) (YL a c)) (w.heap.size + 1 + 1) (YL a c) 26) := Lib.hid (ArrKit.Bk.row HNP.out _)
  have GR : Hid (Bk ((((w.alloc (.cells X 22)).alloc (.cells ZERO 26)).alloc (.cells ZERO 26)).setRow (w.heap.size + 1 + 1) (YL a c)) (w.heap.size + 1) ZERO 26) := Lib.hid (ArrKit.Bk.rowOther HNR.out _ (by omega))
  have GX : Hid (Bk ((((w.alloc (.cells X 22)).alloc (.cells ZERO 26)).alloc (.cells ZERO 26)).setRow (w.heap.size + 1 + 1) (YL a c)) w.heap.size X 22) := Lib.hid (ArrKit.Bk.rowOther HNX.out _ (by omega))
  have GF : Hid (Fr0 w ((((w.alloc (.cells X 22)).alloc (.cells ZERO 26)).alloc (.cells ZERO 26)).setRow (w.heap.size + 1 + 1) (YL a c))) := Lib.hid (ArrKit.Fr.row HNF.out _ _ (.inl (by omega)))
  clear hs1 hs2
  generalize hw3 : (((w.alloc (.cells X 22)).alloc (.cells ZERO 26)).alloc (.cells ZERO 26)).setRow (w.heap.size + 1 + 1) (YL a c) = w3 at *
  go_enter Tryd.func10, Tryd.ntmps10
  go_wp2_with (first | (refine wpList_store_row rfl 26 _ _ rfl (w.heap.size + 1 + 1) (YL a c) rfl rfl 26 ZERO HNP.out HI.out (by rfl) (YL_one a c) ?_; change wpList _ _ _ _ _ ((((w.alloc (.cells X 22)).alloc (.cells ZERO 26)).alloc (.cells ZERO 26)).setRow (w.heap.size + 1 + 1) (YL a c)); rw [hw3]) | (go_at_call 30; (with_reducible refine (sec_eq a true _ k1.out).mono ?_); rintro e w2 ⟨rfl, rfl⟩) | (refine wpList_load_row_g (by rfl) 26 _ rfl (w.heap.size + 1 + 1) rfl 26 (YL a c) (0, 0) _ GP.out Tryd.underlying26 rfl HI.out ?_) | (go_at_call 15; (refine (HRT.out _).mono ?_); rintro e w5 ⟨rfl, hf5⟩; have GP5 := Lib.hid (hf5.keep GP.out (fun h => h)); have GX5 := Lib.hid (hf5.keep GX.out (fun h => h)); have HR5 : Hid (Rd w5 (some ⟨w.heap.size, 0, none⟩) bl) := Lib.hid (Rd.block GX5.out (fun i hi => by rw [Nat.zero_add, ← HXX.out]; simp [hi])); have HK5 := Lib.hid (hf5.keep (GF.out.keep HK.out (fun h => h)) (fun h => h)); have HB5 := Lib.hid (hf5.keep (GF.out.keep HB.out (fun h => h)) (fun h => h)); have GR5 : Hid (Bk w5 (w.heap.size + 1) ZERO 26) := Lib.hid (hf5.keep GR.out (fun h => h)); have GF5 := Lib.hid (GF.out.then0 hf5); clear hf5) | (go_at_call 31; (with_reducible refine (HSM.out _ HR5.out HK5.out HB5.out).mono ?_); rintro e w6 ⟨rfl, hf6⟩; have GP6 := Lib.hid (hf6.keep GP5.out (fun h => h)); have GR6 := Lib.hid (hf6.keep GR5.out (fun h => h)); have GF6 := Lib.hid (GF5.out.then0 hf6); have HTH : Hid (w6.there (w.heap.size + 1 + 1) 2 ((sm).map B).toArray.size) := Lib.hid (there_YL GP6.out (by rw [List.size_toArray, List.length_map, HSL.out])); have GP7 : Hid (Bk (w6.setCells (w.heap.size + 1 + 1) 2 ((sm).map B).toArray.toList) (w.heap.size + 1 + 1) (PC a c (sm)).toArray 26) := Lib.hid (set_YL GP6.out (HSL.out)); have GR7 : Hid (Bk (w6.setCells (w.heap.size + 1 + 1) 2 ((sm).map B).toArray.toList) (w.heap.size + 1) ZERO 26) := Lib.hid ((sets_fr ((sm).map B).toArray.toList 2 _ (Fr.refl (· = w.heap.size + 1 + 1) w6)).keep GR6.out (by omega)); have GF7 : Hid (Fr0 w (w6.setCells (w.heap.size + 1 + 1) 2 ((sm).map B).toArray.toList)) := Lib.hid (GF6.out.then (sets_fr ((sm).map B).toArray.toList 2 _ (Fr.refl (· = w.heap.size + 1 + 1) w6)) (fun i hi e => by omega)); clear hf6) | (refine wpList_store_mid rfl 24 _ _ rfl (w.heap.size + 1 + 1) 2 ((sm).map B).toArray rfl rfl HTH.out HIS.out HSO.out ?_; change wpList _ _ _ _ _ (w6.setCells (w.heap.size + 1 + 1) 2 ((sm).map B).toArray.toList); generalize (w6.setCells (w.heap.size + 1 + 1) 2 ((sm).map B).toArray.toList) = w7 at *) | (refine wpList_load_row rfl 26 _ rfl (w.heap.size + 1 + 1) rfl 26 (PC a c (sm)).toArray (0, 0) _ GP7.out Tryd.underlying26 rfl HIP.out ?_) | (refine wpList_store_row rfl 26 _ _ rfl (w.heap.size + 1) (PC a c (sm)).toArray rfl rfl 26 ZERO GR7.out HIP.out HPZ.out HPO.out ?_))
  refine fin_ct (w.heap.size + 1) 26 (PC a c (sm)).toArray (.int .i64 0) (by rfl) (by rfl) (by rfl) (by rfl) Tryd.underlying26 (by rfl) HIP.out (ArrKit.Bk.row GR7.out _) ?_
  exact ⟨rfl, ArrKit.Fr.row GF7.out _ _ (.inl (by omega))⟩
theorem isH_no (a b : Int) (s : List UInt8) (h : a ≠ -1) : isH a b s = false := decide_eq_false (fun e => h e.1)
theorem right_ok (a c : Int) (s : List UInt8) (h : a ≠ -1) : rightB a c s = okB a c := by rw [rightB, isH_no a c s h, Bool.false_or, okB]
theorem sec_ne {a : Int} (h : secB a = true) : a ≠ -1 := by
  rintro rfl
  simp [secB] at h
/-- what both make of a block and two sectors -/
def ofP (bl : List UInt8) (a c : Int) : Array Value := if okB a c then (PC a c (sumOf bl)).toArray else ZERO
def ofE (a c : Int) : Int := if okB a c then 0 else 1
theorem of_calls (bl : List UInt8) (hbl : bl.length = 128) (a c : Int) (w : World) (ha : (Lit.int .i64 a).wf = true) (hc : (Lit.int .i64 c).wf = true) {tk tb : TypeId} (hK : Bk w 1 KC tk) (hB : Bk w 0 HB8 tb) :
    Calls Tryd.prog 10 #[.agg (bl.map B).toArray, .int .i64 a, .int .i64 c] w fun e w' => e = .returned (.tuple #[.agg (ofP bl a c), .int .i64 (ofE a c)]) ∧ Fr0 w w' := by
  cases k1 : secB a with
  | false =>
    have e : okB a c = false := by rw [okB, k1, Bool.false_and]
    have := of_no1 bl a c w (Lib.hid k1)
    simpa only [ofP, ofE, e, Bool.false_eq_true, if_false] using this
  | true =>
    have hr := right_ok a c Z (sec_ne k1)
    cases k2 : okB a c with
    | false =>
      have := of_no2 bl a c w (Lib.hid k1) ha hc (hr.trans k2)
      simpa only [ofP, ofE, k2, Bool.false_eq_true, if_false] using this
    | true =>
      have := of_yes bl hbl a c w (Lib.hid k1) ha hc (hr.trans k2) hK hB
      simpa only [ofP, ofE, k2, if_true] using this

end Go.Proofs.YtjkaenhopkigdaaDoor.PtrOf
