/- The theorems that the claim uses, text behind text (part 18). -/
import Derived.Test.YtmkmpfnadcmcoaaDoorXad
import Derived.Test.YtmkmpfnadcmcoaaDoorXae
import Derived.Test.YtmkmpfnadcmcoaaDoorXai
import Derived.Test.YtmkmpfnadcmcoaaDoorXaq
set_option maxRecDepth 100000
set_option linter.unusedVariables false
set_option linter.unusedSimpArgs false
namespace Go.Proofs.YtmkmpfnadcmcoaaDoor.PtrOf
open Go Go.RowKit Go.Proofs.YtmkmpfnadcmcoaaDoor.K Go.Proofs.YtmkmpfnadcmcoaaDoor.EqKit Go.Proofs.YtmkmpfnadcmcoaaDoor.PtrKit Go.Proofs.YtmkmpfnadcmcoaaDoor.ArrKit Go.Proofs.YtmkmpfnadcmcoaaDoor.HeldKit Go.Proofs.YtmkmpfnadcmcoaaDoor.PtrAsk Go.Proofs.YtmkmpfnadcmcoaaDoor.ShaStep Go.Proofs.YtmkmpfnadcmcoaaDoor.ShaRef Go.Proofs.YtmkmpfnadcmcoaaDoor.ShaSum Go.Proofs.YtmkmpfnadcmcoaaDoor.ShaRSum
theorem wpList_load_row_g {P : Program} {ops : Array Oper} {rest : List Oper} {o : Oper} {a : Act} {w : World} {Q : Exit → Act → World → Prop} (hw : Region.wanted o (yielded ops a.tmps) = true) (ty : TypeId) (x : Operand) (ho : o.op = .load ty x)
    (g : Nat) (hx : a.eval x = .pointer (some ⟨g, 0, none⟩)) (t : TypeId) (cs : Array Value) (fr : Nat × Nat) (d : TypeDesc) (hg : w.heap[g]? = some (.cells cs t fr))
    (hu : P.underlying ty = some d) (hd : (match d with | .struct _ | .array _ _ => true | _ => false) = true) (hi : (P.info? ty).map (·.size) = some cs.size)
    (h : wpList P ops Q rest (a.put o.dst (.agg cs)) w) : wpList P ops Q (o :: rest) a w := by
  unfold wpList
  rw [if_pos hw]
  exact Or.inl (wp_load_row ty x ho g hx t cs fr d hg hu hd hi h)
theorem sets_bk {g : Nat} {t : TypeId} : ∀ (vs : List Value) (o : Nat) (w : World) (cs : Array Value), Bk w g cs t → Bk (w.setCells g o vs) g (lay cs o vs) t
  | [], _, _, _, h => h
  | v :: r, o, w, cs, h => sets_bk r (o + 1) _ _ (h.set o v)
theorem sets_fr {g : Nat} {w0 : World} : ∀ (vs : List Value) (o : Nat) (w : World), Fr (· = g) w0 w → Fr (· = g) w0 (w.setCells g o vs)
  | [], _, _, h => h
  | v :: r, o, w, h => sets_fr r (o + 1) _ (h.set _ _ (.inr rfl))
def okB (a c : Int) : Bool := secB a && (decide (c = -1) || (secB c && !decide (c = a)))
def YL (a c : Int) : Array Value := #[.int .i64 a, .int .i64 c, .int .u8 0, .int .u8 0, .int .u8 0, .int .u8 0, .int .u8 0, .int .u8 0, .int .u8 0, .int .u8 0, .int .u8 0, .int .u8 0, .int .u8 0, .int .u8 0, .int .u8 0, .int .u8 0, .int .u8 0, .int .u8 0, .int .u8 0, .int .u8 0, .int .u8 0, .int .u8 0, .int .u8 0, .int .u8 0, .int .u8 0, .int .u8 0, .int .u8 0, .int .u8 0, .int .u8 0, .int .u8 0, .int .u8 0, .int .u8 0, .int .u8 0, .int .u8 0]
theorem YL_eq (a c : Int) : YL a c = (PC a c Z).toArray := rfl
theorem YL_one (a c : Int) : (YL a c).all (·.oneCell') = true := by simp [YL, Value.oneCell']
theorem ZERO_one : ZERO.all (·.oneCell') = true := by kernel_rfl
theorem lay_YL (a c : Int) (s : List UInt8) (hs : s.length = 32) : lay (YL a c) 2 (s.map B).toArray.toList = (PC a c s).toArray := by
  apply Array.ext_getElem?
  intro i
  rw [lay_get]
  simp only [List.length_map, hs]
  have h34 : (YL a c).size = 34 := rfl
  by_cases h : 2 ≤ i ∧ i < 2 + 32 ∧ i < (YL a c).size
  · rw [if_pos h]
    obtain ⟨j, rfl⟩ : ∃ j, i = j + 2 := ⟨i - 2, by omega⟩
    simp [PC]
  · rw [if_neg h]
    match i, h with
    | 0, _ => rfl
    | 1, _ => rfl
    | j + 2, h => rw [Array.getElem?_eq_none (by omega), Array.getElem?_eq_none (by simp [PC, hs]; omega)]
theorem there_YL {w : World} {g : Nat} {t : TypeId} {a c : Int} {n : Nat} (h : Bk w g (YL a c) t) (hn : n = 32) : w.there g 2 n := fun j hj => ⟨by
  have h34 : (YL a c).size = 34 := rfl
  rw [Bk.cell h, Array.getElem?_eq_getElem (by omega)]
  rfl, Bk.free h _⟩
theorem set_YL {w : World} {g : Nat} {t : TypeId} {a c : Int} {s : List UInt8} (h : Bk w g (YL a c) t) (hs : s.length = 32) : Bk (w.setCells g 2 (s.map B).toArray.toList) g (PC a c s).toArray t := by
  have := sets_bk (s.map B).toArray.toList 2 _ _ h
  rw [lay_YL a c s hs] at this
  exact this
theorem sec_eq (n : Int) (r : Bool) (w : World) (h : secB n = r) : Calls Tryd.prog 37 #[.int .i64 n] w fun e w' => e = .returned (.bool r) ∧ w = w' := h ▸ sec_calls n w
set_option maxHeartbeats 2000000 in
set_option maxRecDepth 100000 in
theorem of_no1 (bl : List UInt8) (a c : Int) (w : World) (k1 : Hid (secB a = false)) :
    Calls Tryd.prog 16 #[.agg (bl.map B).toArray, .int .i64 a, .int .i64 c] w fun e w' => e = .returned (.tuple #[.agg ZERO, .int .i64 1]) ∧ Fr0 w w' := by
  generalize (bl.map B).toArray = X
  have HI : Hid ((Tryd.prog.info? 37).map (·.size) = some (YL a c).size) := Lib.hid info_p
  have hs2 : ((w.alloc (.cells X 22)).alloc (.cells ZERO 37)).heap.size = w.heap.size + 1 + 1 := by simp
  have HNP : Hid (Bk (((w.alloc (.cells X 22)).alloc (.cells ZERO 37)).alloc (.cells ZERO 37)) (w.heap.size + 1 + 1) ZERO 37) := Lib.hid (by have := Bk.new ((w.alloc (.cells X 22)).alloc (.cells ZERO 37)) (.cells ZERO 37); rwa [hs2] at this)
  have hs1 : (w.alloc (.cells X 22)).heap.size = w.heap.size + 1 := by simp
  have HNR : Hid (Bk (((w.alloc (.cells X 22)).alloc (.cells ZERO 37)).alloc (.cells ZERO 37)) (w.heap.size + 1) ZERO 37) := Lib.hid (Bk.alloc (by have := Bk.new (w.alloc (.cells X 22)) (.cells ZERO 37); rwa [hs1] at this) _)
  have HNX : Hid (Bk (((w.alloc (.cells X 22)).alloc (.cells ZERO 37)).alloc (.cells ZERO 37)) w.heap.size X 22) := Lib.hid (Bk.alloc (Bk.alloc (Bk.new w _) _) _)
  have HNF : Hid (Fr0 w (((w.alloc (.cells X 22)).alloc (.cells ZERO 37)).alloc (.cells ZERO 37))) := Lib.hid (Fr.alloc (Fr.alloc (Fr.alloc (Fr.refl _ _) _) _) _)
  have GP : Hid (Bk ((((w.alloc (.cells X 22)).alloc (.cells ZERO 37)).alloc (.cells ZERO 37)).setRow (w.heap.size + 1 + 1) (YL a c)) (w.heap.size + 1 + 1) (YL a c) 37) := Lib.hid (ArrKit.Bk.row HNP.out _)
  have GR : Hid (Bk ((((w.alloc (.cells X 22)).alloc (.cells ZERO 37)).alloc (.cells ZERO 37)).setRow (w.heap.size + 1 + 1) (YL a c)) (w.heap.size + 1) ZERO 37) := Lib.hid (ArrKit.Bk.rowOther HNR.out _ (by omega))
  have GX : Hid (Bk ((((w.alloc (.cells X 22)).alloc (.cells ZERO 37)).alloc (.cells ZERO 37)).setRow (w.heap.size + 1 + 1) (YL a c)) w.heap.size X 22) := Lib.hid (ArrKit.Bk.rowOther HNX.out _ (by omega))
  have GF : Hid (Fr0 w ((((w.alloc (.cells X 22)).alloc (.cells ZERO 37)).alloc (.cells ZERO 37)).setRow (w.heap.size + 1 + 1) (YL a c))) := Lib.hid (ArrKit.Fr.row HNF.out _ _ (.inl (by omega)))
  clear hs1 hs2
  generalize hw3 : (((w.alloc (.cells X 22)).alloc (.cells ZERO 37)).alloc (.cells ZERO 37)).setRow (w.heap.size + 1 + 1) (YL a c) = w3 at *
  go_enter Tryd.func16, Tryd.ntmps16
  go_wp2_with (first | (refine wpList_store_row rfl 37 _ _ rfl (w.heap.size + 1 + 1) (YL a c) rfl rfl 37 ZERO HNP.out HI.out (by rfl) (YL_one a c) ?_; change wpList _ _ _ _ _ ((((w.alloc (.cells X 22)).alloc (.cells ZERO 37)).alloc (.cells ZERO 37)).setRow (w.heap.size + 1 + 1) (YL a c)); rw [hw3]) | (refine wpList_store_row rfl 37 _ _ rfl (w.heap.size + 1) ZERO rfl rfl 37 ZERO GR.out info_p rfl ZERO_one ?_) | (go_at_call 37; (with_reducible refine (sec_eq a false _ k1.out).mono ?_); rintro e w2 ⟨rfl, rfl⟩))
  refine fin_ct (w.heap.size + 1) 37 ZERO (.int .i64 1) (by rfl) (by rfl) (by rfl) (by rfl) Tryd.underlying37 (by rfl) info_p (ArrKit.Bk.row GR.out _) ?_
  exact ⟨rfl, ArrKit.Fr.row GF.out _ _ (.inl (by omega))⟩
set_option maxHeartbeats 2000000 in
set_option maxRecDepth 100000 in
theorem of_no2 (bl : List UInt8) (a c : Int) (w : World) (k1 : Hid (secB a = true)) (ha : (Lit.int .i64 a).wf = true) (hc : (Lit.int .i64 c).wf = true) (k2 : rightB a c Z = false) :
    Calls Tryd.prog 16 #[.agg (bl.map B).toArray, .int .i64 a, .int .i64 c] w fun e w' => e = .returned (.tuple #[.agg ZERO, .int .i64 1]) ∧ Fr0 w w' := by
  have HRT : Hid (∀ w, Calls Tryd.prog 38 #[.agg (YL a c)] w fun e w' => e = .returned (.bool false) ∧ Fr0 w w') := Lib.hid (fun w => by
    have := right_calls a c Z w Z_len ha hc
    rwa [k2, ← YL_eq] at this)
  clear ha hc k2
  generalize (bl.map B).toArray = X
  have HI : Hid ((Tryd.prog.info? 37).map (·.size) = some (YL a c).size) := Lib.hid info_p
  have hs2 : ((w.alloc (.cells X 22)).alloc (.cells ZERO 37)).heap.size = w.heap.size + 1 + 1 := by simp
  have HNP : Hid (Bk (((w.alloc (.cells X 22)).alloc (.cells ZERO 37)).alloc (.cells ZERO 37)) (w.heap.size + 1 + 1) ZERO 37) := Lib.hid (by have := Bk.new ((w.alloc (.cells X 22)).alloc (.cells ZERO 37)) (.cells ZERO 37); rwa [hs2] at this)
  have hs1 : (w.alloc (.cells X 22)).heap.size = w.heap.size + 1 := by simp
  have HNR : Hid (Bk (((w.alloc (.cells X 22)).alloc (.cells ZERO 37)).alloc (.cells ZERO 37)) (w.heap.size + 1) ZERO 37) := Lib.hid (Bk.alloc (by have := Bk.new (w.alloc (.cells X 22)) (.cells ZERO 37); rwa [hs1] at this) _)
  have HNX : Hid (Bk (((w.alloc (.cells X 22)).alloc (.cells ZERO 37)).alloc (.cells ZERO 37)) w.heap.size X 22) := Lib.hid (Bk.alloc (Bk.alloc (Bk.new w _) _) _)
  have HNF : Hid (Fr0 w (((w.alloc (.cells X 22)).alloc (.cells ZERO 37)).alloc (.cells ZERO 37))) := Lib.hid (Fr.alloc (Fr.alloc (Fr.alloc (Fr.refl _ _) _) _) _)
  have GP : Hid (Bk ((((w.alloc (.cells X 22)).alloc (.cells ZERO 37)).alloc (.cells ZERO 37)).setRow (w.heap.size + 1 + 1) (YL a c)) (w.heap.size + 1 + 1) (YL a c) 37) := Lib.hid (ArrKit.Bk.row HNP.out _)
  have GR : Hid (Bk ((((w.alloc (.cells X 22)).alloc (.cells ZERO 37)).alloc (.cells ZERO 37)).setRow (w.heap.size + 1 + 1) (YL a c)) (w.heap.size + 1) ZERO 37) := Lib.hid (ArrKit.Bk.rowOther HNR.out _ (by omega))
  have GX : Hid (Bk ((((w.alloc (.cells X 22)).alloc (.cells ZERO 37)).alloc (.cells ZERO 37)).setRow (w.heap.size + 1 + 1) (YL a c)) w.heap.size X 22) := Lib.hid (ArrKit.Bk.rowOther HNX.out _ (by omega))
  have GF : Hid (Fr0 w ((((w.alloc (.cells X 22)).alloc (.cells ZERO 37)).alloc (.cells ZERO 37)).setRow (w.heap.size + 1 + 1) (YL a c))) := Lib.hid (ArrKit.Fr.row HNF.out _ _ (.inl (by omega)))
  clear hs1 hs2
  generalize hw3 : (((w.alloc (.cells X 22)).alloc (.cells ZERO 37)).alloc (.cells ZERO 37)).setRow (w.heap.size + 1 + 1) (YL a c) = w3 at *
  go_enter Tryd.func16, Tryd.ntmps16
  go_wp2_with (first | (refine wpList_store_row rfl 37 _ _ rfl (w.heap.size + 1 + 1) (YL a c) rfl rfl 37 ZERO HNP.out HI.out (by rfl) (YL_one a c) ?_; change wpList _ _ _ _ _ ((((w.alloc (.cells X 22)).alloc (.cells ZERO 37)).alloc (.cells ZERO 37)).setRow (w.heap.size + 1 + 1) (YL a c)); rw [hw3]) | (refine wpList_store_row rfl 37 _ _ rfl (w.heap.size + 1) ZERO rfl rfl 37 ZERO GR5.out info_p rfl ZERO_one ?_) | (go_at_call 37; (with_reducible refine (sec_eq a true _ k1.out).mono ?_); rintro e w2 ⟨rfl, rfl⟩) | (refine wpList_load_row_g (by rfl) 37 _ rfl (w.heap.size + 1 + 1) rfl 37 (YL a c) (0, 0) _ GP.out Tryd.underlying37 rfl HI.out ?_) | (go_at_call 38; (refine (HRT.out _).mono ?_); rintro e w5 ⟨rfl, hf5⟩; have GR5 : Hid (Bk w5 (w.heap.size + 1) ZERO 37) := Lib.hid (hf5.keep GR.out (fun h => h)); have GF5 := Lib.hid (GF.out.then0 hf5); clear hf5))
  refine fin_ct (w.heap.size + 1) 37 ZERO (.int .i64 1) (by rfl) (by rfl) (by rfl) (by rfl) Tryd.underlying37 (by rfl) info_p (ArrKit.Bk.row GR5.out _) ?_
  exact ⟨rfl, ArrKit.Fr.row GF5.out _ _ (.inl (by omega))⟩
set_option maxHeartbeats 2000000 in
set_option maxRecDepth 100000 in
theorem of_yes (bl : List UInt8) (hbl : bl.length = 128) (a c : Int) (w : World) (k1 : Hid (secB a = true)) (ha : (Lit.int .i64 a).wf = true) (hc : (Lit.int .i64 c).wf = true) (k2 : rightB a c Z = true) {tk tb : TypeId} (hK : Bk w 1 KC tk) (hB : Bk w 0 HB8 tb) :
    Calls Tryd.prog 16 #[.agg (bl.map B).toArray, .int .i64 a, .int .i64 c] w fun e w' => e = .returned (.tuple #[.agg (PC a c (sumOf bl)).toArray, .int .i64 0]) ∧ Fr0 w w' := by
  have HRT : Hid (∀ w, Calls Tryd.prog 38 #[.agg (YL a c)] w fun e w' => e = .returned (.bool true) ∧ Fr0 w w') := Lib.hid (fun w => by
    have := right_calls a c Z w Z_len ha hc
    rwa [k2, ← YL_eq] at this)
  have HK := Lib.hid hK
  have HB := Lib.hid hB
  have HBL := Lib.hid hbl
  have HSM : Hid (∀ (W : World), Rd W (some ⟨w.heap.size, 0, none⟩) bl → Bk W 1 KC tk → Bk W 0 HB8 tb → Calls Tryd.prog 39 #[.slice (some ⟨w.heap.size, 0, none⟩) 128 128] W fun e w' => e = .returned (.agg ((sumOf bl).map B).toArray) ∧ Fr0 W w') := Lib.hid (fun W h1 h2 h3 => sum_calls (some ⟨w.heap.size, 0, none⟩) 128 128 bl W hbl h1 (by omega) h2 h3)
  have hsl := sumOf_length bl
  generalize sumOf bl = sm at *
  have HSL := Lib.hid hsl
  have HIS : Hid ((Tryd.prog.info? 35).map (·.size) = some ((sm).map B).toArray.size) := Lib.hid (by rw [info32a, List.size_toArray, List.length_map, HSL.out])
  have HSO : Hid (((sm).map B).toArray.all (·.oneCell') = true) := Lib.hid (by simp [B, Value.oneCell'])
  have HIP : Hid ((Tryd.prog.info? 37).map (·.size) = some (PC a c (sm)).toArray.size) := Lib.hid (by rw [info_p, List.size_toArray, PC_length, HSL.out])
  have HPZ : Hid (ZERO.size = (PC a c (sm)).toArray.size) := Lib.hid ((show ZERO.size = 34 from rfl).trans (by rw [List.size_toArray, PC_length, HSL.out]))
  have HPO : Hid ((PC a c (sm)).toArray.all (·.oneCell') = true) := Lib.hid (by simp [PC, B, Value.oneCell'])
  clear ha hc k2 hK hB hbl hsl
  generalize hxx : (bl.map B).toArray = X at *
  have HXX := Lib.hid hxx
  clear hxx
  have HI : Hid ((Tryd.prog.info? 37).map (·.size) = some (YL a c).size) := Lib.hid info_p
  have hs2 : ((w.alloc (.cells X 22)).alloc (.cells ZERO 37)).heap.size = w.heap.size + 1 + 1 := by simp
  have HNP : Hid (Bk (((w.alloc (.cells X 22)).alloc (.cells ZERO 37)).alloc (.cells ZERO 37)) (w.heap.size + 1 + 1) ZERO 37) := Lib.hid (by have := Bk.new ((w.alloc (.cells X 22)).alloc (.cells ZERO 37)) (.cells ZERO 37); rwa [hs2] at this)
  have hs1 : (w.alloc (.cells X 22)).heap.size = w.heap.size + 1 := by simp
  have HNR : Hid (Bk (((w.alloc (.cells X 22)).alloc (.cells ZERO 37)).alloc (.cells ZERO 37)) (w.heap.size + 1) ZERO 37) := Lib.hid (Bk.alloc (by have := Bk.new (w.alloc (.cells X 22)) (.cells ZERO 37); rwa [hs1] at this) _)
  have HNX : Hid (Bk (((w.alloc (.cells X 22)).alloc (.cells ZERO 37)).alloc (.cells ZERO 37)) w.heap.size X 22) := Lib.hid (Bk.alloc (Bk.alloc (Bk.new w _) _) _)
  have HNF : Hid (Fr0 w (((w.alloc (.cells X 22)).alloc (.cells ZERO 37)).alloc (.cells ZERO 37))) := Lib.hid (Fr.alloc (Fr.alloc (Fr.alloc (Fr.refl _ _) _) _) _)
  have GP : Hid (Bk ((((w.alloc (.cells X 22)).alloc (.cells ZERO 37)).alloc (.cells ZERO 37)).setRow (w.heap.size + 1 + 1) (YL a c)) (w.heap.size + 1 + 1) (YL a c) 37) := Lib.hid (ArrKit.Bk.row HNP.out _)
  have GR : Hid (Bk ((((w.alloc (.cells X 22)).alloc (.cells ZERO 37)).alloc (.cells ZERO 37)).setRow (w.heap.size + 1 + 1) (YL a c)) (w.heap.size + 1) ZERO 37) := Lib.hid (ArrKit.Bk.rowOther HNR.out _ (by omega))
  have GX : Hid (Bk ((((w.alloc (.cells X 22)).alloc (.cells ZERO 37)).alloc (.cells ZERO 37)).setRow (w.heap.size + 1 + 1) (YL a c)) w.heap.size X 22) := Lib.hid (ArrKit.Bk.rowOther HNX.out _ (by omega))
  have GF : Hid (Fr0 w ((((w.alloc (.cells X 22)).alloc (.cells ZERO 37)).alloc (.cells ZERO 37)).setRow (w.heap.size + 1 + 1) (YL a c))) := Lib.hid (ArrKit.Fr.row HNF.out _ _ (.inl (by omega)))
  clear hs1 hs2
  generalize hw3 : (((w.alloc (.cells X 22)).alloc (.cells ZERO 37)).alloc (.cells ZERO 37)).setRow (w.heap.size + 1 + 1) (YL a c) = w3 at *
  go_enter Tryd.func16, Tryd.ntmps16
  go_wp2_with (first | (refine wpList_store_row rfl 37 _ _ rfl (w.heap.size + 1 + 1) (YL a c) rfl rfl 37 ZERO HNP.out HI.out (by rfl) (YL_one a c) ?_; change wpList _ _ _ _ _ ((((w.alloc (.cells X 22)).alloc (.cells ZERO 37)).alloc (.cells ZERO 37)).setRow (w.heap.size + 1 + 1) (YL a c)); rw [hw3]) | (go_at_call 37; (with_reducible refine (sec_eq a true _ k1.out).mono ?_); rintro e w2 ⟨rfl, rfl⟩) | (refine wpList_load_row_g (by rfl) 37 _ rfl (w.heap.size + 1 + 1) rfl 37 (YL a c) (0, 0) _ GP.out Tryd.underlying37 rfl HI.out ?_) | (go_at_call 38; (refine (HRT.out _).mono ?_); rintro e w5 ⟨rfl, hf5⟩; have GP5 := Lib.hid (hf5.keep GP.out (fun h => h)); have GX5 := Lib.hid (hf5.keep GX.out (fun h => h)); have HR5 : Hid (Rd w5 (some ⟨w.heap.size, 0, none⟩) bl) := Lib.hid (Rd.block GX5.out (fun i hi => by rw [Nat.zero_add, ← HXX.out]; simp [hi])); have HK5 := Lib.hid (hf5.keep (GF.out.keep HK.out (fun h => h)) (fun h => h)); have HB5 := Lib.hid (hf5.keep (GF.out.keep HB.out (fun h => h)) (fun h => h)); have GR5 : Hid (Bk w5 (w.heap.size + 1) ZERO 37) := Lib.hid (hf5.keep GR.out (fun h => h)); have GF5 := Lib.hid (GF.out.then0 hf5); clear hf5) | (go_at_call 39; (with_reducible refine (HSM.out _ HR5.out HK5.out HB5.out).mono ?_); rintro e w6 ⟨rfl, hf6⟩; have GP6 := Lib.hid (hf6.keep GP5.out (fun h => h)); have GR6 := Lib.hid (hf6.keep GR5.out (fun h => h)); have GF6 := Lib.hid (GF5.out.then0 hf6); have HTH : Hid (w6.there (w.heap.size + 1 + 1) 2 ((sm).map B).toArray.size) := Lib.hid (there_YL GP6.out (by rw [List.size_toArray, List.length_map, HSL.out])); have GP7 : Hid (Bk (w6.setCells (w.heap.size + 1 + 1) 2 ((sm).map B).toArray.toList) (w.heap.size + 1 + 1) (PC a c (sm)).toArray 37) := Lib.hid (set_YL GP6.out (HSL.out)); have GR7 : Hid (Bk (w6.setCells (w.heap.size + 1 + 1) 2 ((sm).map B).toArray.toList) (w.heap.size + 1) ZERO 37) := Lib.hid ((sets_fr ((sm).map B).toArray.toList 2 _ (Fr.refl (· = w.heap.size + 1 + 1) w6)).keep GR6.out (by omega)); have GF7 : Hid (Fr0 w (w6.setCells (w.heap.size + 1 + 1) 2 ((sm).map B).toArray.toList)) := Lib.hid (GF6.out.then (sets_fr ((sm).map B).toArray.toList 2 _ (Fr.refl (· = w.heap.size + 1 + 1) w6)) (fun i hi e => by omega)); clear hf6) | (refine wpList_store_mid rfl 35 _ _ rfl (w.heap.size + 1 + 1) 2 ((sm).map B).toArray rfl rfl HTH.out HIS.out HSO.out ?_; change wpList _ _ _ _ _ (w6.setCells (w.heap.size + 1 + 1) 2 ((sm).map B).toArray.toList); generalize (w6.setCells (w.heap.size + 1 + 1) 2 ((sm).map B).toArray.toList) = w7 at *) | (refine wpList_load_row rfl 37 _ rfl (w.heap.size + 1 + 1) rfl 37 (PC a c (sm)).toArray (0, 0) _ GP7.out Tryd.underlying37 rfl HIP.out ?_) | (refine wpList_store_row rfl 37 _ _ rfl (w.heap.size + 1) (PC a c (sm)).toArray rfl rfl 37 ZERO GR7.out HIP.out HPZ.out HPO.out ?_))
  refine fin_ct (w.heap.size + 1) 37 (PC a c (sm)).toArray (.int .i64 0) (by rfl) (by rfl) (by rfl) (by rfl) Tryd.underlying37 (by rfl) HIP.out (ArrKit.Bk.row GR7.out _) ?_
  exact ⟨rfl, ArrKit.Fr.row GF7.out _ _ (.inl (by omega))⟩
theorem isH_no (a b : Int) (s : List UInt8) (h : a ≠ -1) : isH a b s = false := decide_eq_false (fun e => h e.1)
theorem right_ok (a c : Int) (s : List UInt8) (h : a ≠ -1) : rightB a c s = okB a c := by rw [rightB, isH_no a c s h, Bool.false_or, okB]
theorem sec_ne {a : Int} (h : secB a = true) : a ≠ -1 := by
  rintro rfl
  simp [secB] at h
/-- what both make of a block and two sectors -/
def ofP (bl : List UInt8) (a c : Int) : Array Value := if okB a c then (PC a c (sumOf bl)).toArray else ZERO
def ofE (a c : Int) : Int := if okB a c then 0 else 1
theorem of_calls (bl : List UInt8) (hbl : bl.length = 128) (a c : Int) (w : World) (ha : (Lit.int .i64 a).wf = true) (hc : (Lit.int .i64 c).wf = true) {tk tb : TypeId} (hK : Bk w 1 KC tk) (hB : Bk w 0 HB8 tb) :
    Calls Tryd.prog 16 #[.agg (bl.map B).toArray, .int .i64 a, .int .i64 c] w fun e w' => e = .returned (.tuple #[.agg (ofP bl a c), .int .i64 (ofE a c)]) ∧ Fr0 w w' := by
  cases k1 : secB a with
  | false =>
    have e : okB a c = false := by rw [okB, k1, Bool.false_and]
    have := of_no1 bl a c w (Lib.hid k1)
    simpa only [ofP, ofE, e, Bool.false_eq_true, if_false] using this
  | true =>
    have hr := right_ok a c Z (sec_ne k1)
    cases k2 : okB a c with
    | false =>
      have := of_no2 bl a c w (Lib.hid k1) ha hc (hr.trans k2)
      simpa only [ofP, ofE, k2, Bool.false_eq_true, if_false] using this
    | true =>
      have := of_yes bl hbl a c w (Lib.hid k1) ha hc (hr.trans k2) hK hB
      simpa only [ofP, ofE, k2, if_true] using this

end Go.Proofs.YtmkmpfnadcmcoaaDoor.PtrOf
namespace Go.Proofs.YtmkmpfnadcmcoaaDoor.PtrFit
open Go Go.RowKit Go.Proofs.YtmkmpfnadcmcoaaDoor.K Go.Proofs.YtmkmpfnadcmcoaaDoor.EqKit Go.Proofs.YtmkmpfnadcmcoaaDoor.PtrKit Go.Proofs.YtmkmpfnadcmcoaaDoor.ArrKit Go.Proofs.YtmkmpfnadcmcoaaDoor.HeldKit Go.Proofs.YtmkmpfnadcmcoaaDoor.PtrAsk Go.Proofs.YtmkmpfnadcmcoaaDoor.ShaStep Go.Proofs.YtmkmpfnadcmcoaaDoor.ShaRef Go.Proofs.YtmkmpfnadcmcoaaDoor.ShaSum Go.Proofs.YtmkmpfnadcmcoaaDoor.ShaRSum Go.Proofs.YtmkmpfnadcmcoaaDoor.PtrOf
set_option maxHeartbeats 2000000 in
set_option maxRecDepth 100000 in
theorem fits_no (a b : Int) (s bl : List UInt8) (w : World) (hs : s.length = 32) (hbl : bl.length = 128) (ha : (Lit.int .i64 a).wf = true) (hb : (Lit.int .i64 b).wf = true) (k0 : isH a b s = false) {tk tb : TypeId} (hK : Bk w 1 KC tk) (hB : Bk w 0 HB8 tb) :
    Calls Tryd.prog 52 #[.agg (PC a b s).toArray, .agg (bl.map B).toArray] w fun e w' => e = .returned (.bool (decide (sumOf bl = s))) ∧ Fr0 w w' := by
  have HSH : Hid (∀ W : World, Calls Tryd.prog 28 #[.agg (PC a b s).toArray] W fun e w' => e = .returned (.bool false) ∧ Fr0 W w') := Lib.hid (fun W => by
    have := ish_calls a b s W hs ha hb
    rw [k0] at this
    exact this)
  have HIP : Hid ((Tryd.prog.info? 37).map (·.size) = some (PC a b s).toArray.size) := Lib.hid (by rw [info_p, List.size_toArray, PC_length, hs])
  generalize hy : (PC a b s).toArray = Y at *
  generalize hxx : (bl.map B).toArray = X at *
  have HYY := Lib.hid hy
  have HXX := Lib.hid hxx
  have HK := Lib.hid hK
  have HB := Lib.hid hB
  have HP0 : Hid (Bk ((w.alloc (.cells Y 37)).alloc (.cells X 22)) w.heap.size Y 37) := Lib.hid (Bk.alloc (Bk.new w _) _)
  have HF0 : Hid (Fr0 w ((w.alloc (.cells Y 37)).alloc (.cells X 22))) := Lib.hid (Fr.alloc (Fr.alloc (Fr.refl _ _) _) _)
  have HX0 : Hid (Bk ((w.alloc (.cells Y 37)).alloc (.cells X 22)) (w.heap.size + 1) X 22) := Lib.hid (by have := Bk.new (w.alloc (.cells Y 37)) (.cells X 22); rwa [show (w.alloc (.cells Y 37)).heap.size = w.heap.size + 1 by simp] at this)
  have HK0 : Hid (Bk ((w.alloc (.cells Y 37)).alloc (.cells X 22)) 1 KC tk) := Lib.hid (Bk.alloc (Bk.alloc HK.out _) _)
  have HB0 : Hid (Bk ((w.alloc (.cells Y 37)).alloc (.cells X 22)) 0 HB8 tb) := Lib.hid (Bk.alloc (Bk.alloc HB.out _) _)
  have HRG : Hid (∀ W : World, W.heap[w.heap.size]? = some (.cells Y 37 (0, 0)) → W.rangeAt w.heap.size 2 (s.map B)) := Lib.hid (fun W h j v hj => by
    rw [Bk.cell h, ← hy, PC, List.getElem?_toArray, Nat.add_comm 2 j]
    simpa using hj)
  have HRD : Hid (∀ W : World, W.heap[w.heap.size + 1]? = some (.cells X 22 (0, 0)) → Rd W (some ⟨w.heap.size + 1, 0, none⟩) bl) := Lib.hid (fun W h => Rd.block h (fun i hi => by rw [Nat.zero_add, ← hxx]; simp [hi]))
  have HSM : Hid (∀ (W : World), Rd W (some ⟨w.heap.size + 1, 0, none⟩) bl → Bk W 1 KC tk → Bk W 0 HB8 tb → Calls Tryd.prog 39 #[.slice (some ⟨w.heap.size + 1, 0, none⟩) 128 128] W fun e w' => e = .returned (.agg ((sumOf bl).map B).toArray) ∧ Fr0 W w') := Lib.hid (fun W h1 h2 h3 => sum_calls (some ⟨w.heap.size + 1, 0, none⟩) 128 128 bl W hbl h1 (by omega) h2 h3)
  have HEQ : Hid (∀ W, _) := Lib.hid (eq_bytes (P := Tryd.prog) Tryd.underlying35 Tryd.underlying5 (by kernel_rfl) (by kernel_rfl) (by kernel_rfl) (sumOf bl) s (sumOf_length bl) hs)
  have HIS : Hid ((Tryd.prog.info? 35).map (·.size) = some (s.map B).length) := Lib.hid (by rw [info32a, List.length_map, hs])
  generalize sumOf bl = sm at *
  clear ha hb k0 hK hB hy hxx hs hbl
  go_enter Tryd.func52, Tryd.ntmps52
  go_wp2_with (first | (refine wpList_load_row rfl 37 _ rfl w.heap.size rfl 37 Y (0, 0) _ HP0.out Tryd.underlying37 rfl HIP.out ?_) | (go_at_call 28; (with_reducible refine (HSH.out _).mono ?_); rintro e w3 ⟨rfl, hf3⟩; have HF3 := Lib.hid (HF0.out.then0 hf3); have H3h := Lib.hid (Held.cons (hf3.keep HP0.out (fun h => h)) (Held.cons (hf3.keep HX0.out (fun h => h)) (Held.cons (hf3.keep HK0.out (fun h => h)) (Held.cons (hf3.keep HB0.out (fun h => h)) (Held.nil HF3.out))))); clear hf3))
  have H3 := H3h.out
  refine wp_region_noPanic ?_
  refine wp_region_held_drew (S := (Held w [(w.heap.size, .cells Y 37 (0, 0)), (w.heap.size + 1, .cells X 22 (0, 0)), (1, .cells KC tk (0, 0)), (0, .cells HB8 tb (0, 0))])) (by kernel_rfl) (Held.drew H3) (fun hHeld0 => ?_)
  change wpAnyH _ _ _ _ _ 6 #[false, false, false, false, false, false] _ _
  refine wpAnyH_take (i := 0) (v := (.slice (some ⟨w.heap.size + 1, 0, none⟩) 128 128)) rfl (by kernel_rfl) (by kernel_rfl) (by kernel_rfl) (fun _ _ _ h => h) (Or.inl ⟨by kernel_rfl, fun w hSw => by kernel_rfl⟩) hHeld0 ?_
  simp only [Act.put, List.getElem_toArray, List.getElem_cons_succ, List.getElem_cons_zero, List.setIfInBounds_toArray, List.set_cons_zero, List.set_cons_succ]
  change wpAnyH _ _ _ _ _ 5 #[true, false, false, false, false, false] _ _
  refine wpAnyH_take (i := 2) (v := (.pointer (some ⟨w.heap.size, 2, none⟩))) rfl (by kernel_rfl) (by kernel_rfl) (by kernel_rfl) (fun _ _ _ h => h) (Or.inl ⟨by kernel_rfl, fun w hSw => by kernel_rfl⟩) hHeld0 ?_
  simp only [Act.put, List.getElem_toArray, List.getElem_cons_succ, List.getElem_cons_zero, List.setIfInBounds_toArray, List.set_cons_zero, List.set_cons_succ]
  change wpAnyH _ _ _ _ _ 4 #[true, false, true, false, false, false] _ _
  refine wpAnyH_take (i := 3) (v := (.agg (s.map B).toArray)) rfl (by kernel_rfl) (by kernel_rfl) (by kernel_rfl) (fun _ _ _ h => h) (yieldsIf_load_mid (by kernel_rfl) 35 _ rfl w.heap.size 2 rfl (s.map B) _ (fun W h => HRG.out W (Held.a0 h)) Tryd.underlying35 rfl HIS.out) hHeld0 ?_
  simp only [Act.put, List.getElem_toArray, List.getElem_cons_succ, List.getElem_cons_zero, List.setIfInBounds_toArray, List.set_cons_zero, List.set_cons_succ]
  change wpAnyH _ _ _ _ _ 3 #[true, false, true, true, false, false] _ _
  refine wpAnyH_ready (rs := [1]) (by kernel_rfl) (by simp) ?_
  refine AllReadyH.cons rfl (fun K hK => ?_) AllReadyH.nil
  simp only [List.getElem_toArray, List.getElem_cons_succ, List.getElem_cons_zero]
  refine (if_pos (by kernel_rfl)).mpr ?_
  go_wp2_with fail
  refine (HSM.out _ (HRD.out _ (Held.a0 (Held.tl hHeld0))) (Held.a0 (Held.tl (Held.tl hHeld0))) (Held.a0 (Held.tl (Held.tl (Held.tl hHeld0))))).mono ?_
  rintro e wx0 ⟨rfl, hfx0⟩
  dsimp only
  refine hK.out _ _ (Held.keep hfx0 hHeld0) (fun hHeld1 => ?_)
  clear hK K hHeld0
  change wpAnyH _ _ _ _ _ 2 #[true, true, true, true, false, false] _ _
  refine wpAnyH_take (i := 4) (v := .bool (decide (sm = s))) rfl (by kernel_rfl) (by kernel_rfl) (by kernel_rfl) (fun _ _ _ h => h) (Or.inl ⟨by kernel_rfl, fun w hSw => run_eql_op rfl rfl rfl (by kernel_rfl) HEQ.out w⟩) hHeld1 ?_
  simp only [Act.put, List.getElem_toArray, List.getElem_cons_succ, List.getElem_cons_zero, List.setIfInBounds_toArray, List.set_cons_zero, List.set_cons_succ]
  change wpAnyH _ _ _ _ _ 1 #[true, true, true, true, true, false] _ _
  refine wpAnyH_ready (rs := [5]) (by kernel_rfl) (by simp) ?_
  refine AllReadyH.cons rfl (fun K hK => ?_) AllReadyH.nil
  simp only [List.getElem_toArray, List.getElem_cons_succ, List.getElem_cons_zero]
  refine (if_pos (by kernel_rfl)).mpr ?_
  go_wp2_with fail
  refine hK.out _ _ hHeld1 (fun _ => ?_)
  clear hK K
  change wpAnyH _ _ _ _ _ 0 #[true, true, true, true, true, true] _ _
  refine wpAnyH_done (by kernel_rfl) ?_ _
  refine NoPanic.normal ?_
  have HFIN := Lib.hid (Held.f hHeld1)
  have HEND := Lib.hid hHeld1
  clear hHeld1
  go_wp2_with fail
  all_goals go_ret
  exact ⟨by kernel_rfl, HFIN.out⟩

end Go.Proofs.YtmkmpfnadcmcoaaDoor.PtrFit
namespace Go.Proofs.YtmkmpfnadcmcoaaDoor.PtrROf
open Go Go.RowKit Go.Proofs.YtmkmpfnadcmcoaaDoor.K Go.Proofs.YtmkmpfnadcmcoaaDoor.EqKit Go.Proofs.YtmkmpfnadcmcoaaDoor.PtrKit Go.Proofs.YtmkmpfnadcmcoaaDoor.ArrKit Go.Proofs.YtmkmpfnadcmcoaaDoor.HeldKit Go.Proofs.YtmkmpfnadcmcoaaDoor.PtrAsk Go.Proofs.YtmkmpfnadcmcoaaDoor.ShaStep Go.Proofs.YtmkmpfnadcmcoaaDoor.ShaRef Go.Proofs.YtmkmpfnadcmcoaaDoor.ShaSum Go.Proofs.YtmkmpfnadcmcoaaDoor.ShaRSum Go.Proofs.YtmkmpfnadcmcoaaDoor.PtrOf
theorem build_ev {P : Program} {ops : Array Oper} {rest : List Oper} {o : Oper} {a : Act} {w : World} {Q : Exit → Act → World → Prop} (hg : o.guard = none) (t : TypeId) (parts : Array (Nat × Operand)) (ho : o.op = .build t parts) (L : List (Nat × Value))
    (hp : (parts.map fun (i, x) => (i, a.eval x)).toList = L) (cs : Array Value) (hf : P.built t L = some cs) (h : wpList P ops Q rest (a.put o.dst (.agg cs)) w) : wpList P ops Q (o :: rest) a w :=
  PtrAsk.build_eq hg t parts ho cs (by rw [hp]; exact hf) h
end Go.Proofs.YtmkmpfnadcmcoaaDoor.PtrROf
namespace Go.Proofs.YtmkmpfnadcmcoaaDoor.PtrRFit
open Go Go.RowKit Go.Proofs.YtmkmpfnadcmcoaaDoor.K Go.Proofs.YtmkmpfnadcmcoaaDoor.EqKit Go.Proofs.YtmkmpfnadcmcoaaDoor.PtrKit Go.Proofs.YtmkmpfnadcmcoaaDoor.ArrKit Go.Proofs.YtmkmpfnadcmcoaaDoor.HeldKit Go.Proofs.YtmkmpfnadcmcoaaDoor.PtrAsk Go.Proofs.YtmkmpfnadcmcoaaDoor.ShaStep Go.Proofs.YtmkmpfnadcmcoaaDoor.ShaRef Go.Proofs.YtmkmpfnadcmcoaaDoor.ShaSum Go.Proofs.YtmkmpfnadcmcoaaDoor.ShaRSum Go.Proofs.YtmkmpfnadcmcoaaDoor.PtrOf Go.Proofs.YtmkmpfnadcmcoaaDoor.PtrFit Go.Proofs.YtmkmpfnadcmcoaaDoor.WordTake
set_option maxHeartbeats 2000000 in
set_option maxRecDepth 100000 in
theorem fits_hole (a b : Int) (s bl : List UInt8) (w : World) (hs : s.length = 32) (hbl : bl.length = 128) (ha : (Lit.int .i64 a).wf = true) (hb : (Lit.int .i64 b).wf = true) (k0 : isH a b s = true) :
    Calls Tryd.prog 52 #[.agg (PC a b s).toArray, .agg (bl.map B).toArray] w fun e w' => e = .returned (.bool (allZ bl)) ∧ Fr0 w w' := by
  have HSH : Hid (∀ W : World, Calls Tryd.prog 28 #[.agg (PC a b s).toArray] W fun e w' => e = .returned (.bool true) ∧ Fr0 W w') := Lib.hid (fun W => by
    have := ish_calls a b s W hs ha hb
    rw [k0] at this
    exact this)
  have HIP : Hid ((Tryd.prog.info? 37).map (·.size) = some (PC a b s).toArray.size) := Lib.hid (by rw [info_p, List.size_toArray, PC_length, hs])
  generalize hy : (PC a b s).toArray = Y at *
  generalize hxx : (bl.map B).toArray = X at *
  have HXX := Lib.hid hxx
  have HP0 : Hid (Bk ((w.alloc (.cells Y 37)).alloc (.cells X 22)) w.heap.size Y 37) := Lib.hid (Bk.alloc (Bk.new w _) _)
  have HF0 : Hid (Fr0 w ((w.alloc (.cells Y 37)).alloc (.cells X 22))) := Lib.hid (Fr.alloc (Fr.alloc (Fr.refl _ _) _) _)
  have HX0 : Hid (Bk ((w.alloc (.cells Y 37)).alloc (.cells X 22)) (w.heap.size + 1) X 22) := Lib.hid (by have := Bk.new (w.alloc (.cells Y 37)) (.cells X 22); rwa [show (w.alloc (.cells Y 37)).heap.size = w.heap.size + 1 by simp] at this)
  have HRD : Hid (∀ W : World, W.heap[w.heap.size + 1]? = some (.cells X 22 (0, 0)) → Rd W (some ⟨w.heap.size + 1, 0, none⟩) bl) := Lib.hid (fun W h => Rd.block h (fun i hi => by rw [Nat.zero_add, ← hxx]; simp [hi]))
  have HZ : Hid (∀ (W : World), Rd W (some ⟨w.heap.size + 1, 0, none⟩) bl → Calls Tryd.prog 65 #[.slice (some ⟨w.heap.size + 1, 0, none⟩) 128 128] W fun e w' => e = .returned (.bool (allZ bl)) ∧ W = w') := Lib.hid (fun W h1 => zero_calls (some ⟨w.heap.size + 1, 0, none⟩) 128 128 bl W hbl h1 (by omega) (by omega) (by omega))
  clear ha hb k0 hy hxx hs hbl
  go_enter Tryd.func52, Tryd.ntmps52
  go_wp2_with (first | (refine wpList_load_row rfl 37 _ rfl w.heap.size rfl 37 Y (0, 0) _ HP0.out Tryd.underlying37 rfl HIP.out ?_) | (go_at_call 28; (with_reducible refine (HSH.out _).mono ?_); rintro e w3 ⟨rfl, hf3⟩; have HF3 := Lib.hid (HF0.out.then0 hf3); have HX3 := Lib.hid (hf3.keep HX0.out (fun h => h)); clear hf3) | (go_at_call 65; (with_reducible refine (HZ.out _ (HRD.out _ HX3.out)).mono ?_); rintro e w4 ⟨rfl, rfl⟩))
  all_goals go_ret
  exact ⟨by kernel_rfl, HF3.out⟩
def Z128 : List UInt8 := List.replicate 128 0
theorem Z128_len : Z128.length = 128 := by simp [Z128]
end Go.Proofs.YtmkmpfnadcmcoaaDoor.PtrRFit
namespace Go.Proofs.YtmkmpfnadcmcoaaDoor.PtrFitB
open Go Go.RowKit Go.Proofs.YtmkmpfnadcmcoaaDoor.K Go.Proofs.YtmkmpfnadcmcoaaDoor.EqKit Go.Proofs.YtmkmpfnadcmcoaaDoor.PtrKit Go.Proofs.YtmkmpfnadcmcoaaDoor.ArrKit Go.Proofs.YtmkmpfnadcmcoaaDoor.HeldKit Go.Proofs.YtmkmpfnadcmcoaaDoor.PtrAsk Go.Proofs.YtmkmpfnadcmcoaaDoor.ShaStep Go.Proofs.YtmkmpfnadcmcoaaDoor.ShaRef Go.Proofs.YtmkmpfnadcmcoaaDoor.ShaSum Go.Proofs.YtmkmpfnadcmcoaaDoor.ShaRSum Go.Proofs.YtmkmpfnadcmcoaaDoor.PtrOf Go.Proofs.YtmkmpfnadcmcoaaDoor.PtrFit Go.Proofs.YtmkmpfnadcmcoaaDoor.PtrRFit Go.Proofs.YtmkmpfnadcmcoaaDoor.WordTake
def fitB (a b : Int) (s bl : List UInt8) : Bool := if isH a b s then allZ bl else decide (sumOf bl = s)
theorem fits_calls (a b : Int) (s bl : List UInt8) (w : World) (hs : s.length = 32) (hbl : bl.length = 128) (ha : (Lit.int .i64 a).wf = true) (hb : (Lit.int .i64 b).wf = true) {tk tb : TypeId} (hK : Bk w 1 KC tk) (hB : Bk w 0 HB8 tb) :
    Calls Tryd.prog 52 #[.agg (PC a b s).toArray, .agg (bl.map B).toArray] w fun e w' => e = .returned (.bool (fitB a b s bl)) ∧ Fr0 w w' := by
  cases h : isH a b s with
  | true => rw [show fitB a b s bl = allZ bl by simp [fitB, h]]; exact fits_hole a b s bl w hs hbl ha hb h
  | false => rw [show fitB a b s bl = decide (sumOf bl = s) by simp [fitB, h]]; exact fits_no a b s bl w hs hbl ha hb h hK hB
end Go.Proofs.YtmkmpfnadcmcoaaDoor.PtrFitB
namespace Go.Proofs.YtmkmpfnadcmcoaaDoor.RowG
open Go Go.RowKit Go.Proofs.YtmkmpfnadcmcoaaDoor.K Go.Proofs.YtmkmpfnadcmcoaaDoor.ArrKit Go.Proofs.YtmkmpfnadcmcoaaDoor.HeldKit Go.Proofs.YtmkmpfnadcmcoaaDoor.GKit Go.Proofs.YtmkmpfnadcmcoaaDoor.GRow Go.Proofs.YtmkmpfnadcmcoaaDoor.GApp
section
variable {α : Type} {f : α → List Value} {k : Nat} {e : TypeId}
/-- a slice of one's own: nil, or of a block of one's own -/
def Row (f : α → List Value) (k : Nat) (e : TypeId) (w : World) (base : Nat) (v : Value) (l : List α) : Prop :=
  (v = .slice none 0 0 ∧ l = []) ∨ ∃ g cap cur, v = .slice (some ⟨g, 0, none⟩) l.length cap ∧ base ≤ g ∧ OwnG f k e w g cap cur l
theorem Row.nil (w : World) (base : Nat) : Row f k e w base (.slice none 0 0) [] := .inl ⟨rfl, rfl⟩
theorem Row.own {w : World} {base g cap : Nat} {cur : Array Value} {l : List α} (h : OwnG f k e w g cap cur l) (hb : base ≤ g) : Row f k e w base (.slice (some ⟨g, 0, none⟩) l.length cap) l := .inr ⟨g, cap, cur, rfl, hb, h⟩
theorem Row.keep {S : Nat → Prop} {w w1 : World} {base : Nat} {v : Value} {l : List α} (h : Row f k e w base v l) (fr : Fr S w w1) (hs : ∀ g, v.ownBlock = some g → ¬ S g) : Row f k e w1 base v l := by
  rcases h with h | ⟨g, cap, cur, rfl, hb, ho⟩
  · exact .inl h
  · exact .inr ⟨g, cap, cur, rfl, hb, OwnG.keep ho fr (hs g rfl)⟩
theorem Row.keep0 {w w1 : World} {base : Nat} {v : Value} {l : List α} (h : Row f k e w base v l) (fr : Fr0 w w1) : Row f k e w1 base v l := h.keep fr (fun _ _ h => h)
theorem Row.blk {w : World} {base : Nat} {v : Value} {l : List α} (h : Row f k e w base v l) : ∀ g, v.ownBlock = some g → base ≤ g ∧ g < w.heap.size := by
  rcases h with ⟨rfl, rfl⟩ | ⟨g, cap, cur, rfl, hb, ho⟩
  · intro g e; simp [Value.ownBlock] at e
  · intro g' e
    simp only [Value.ownBlock, Option.some.injEq] at e
    subst e
    exact ⟨hb, Bk.lt ho.blk⟩
/-- what a row is, and what it reads as -/
theorem Row.form {w : World} {base : Nat} {v : Value} {l : List α} (h : Row f k e w base v l) : ∃ a cap, v = .slice a l.length cap ∧ l.length ≤ cap ∧ cap ≤ 9223372036854775807 ∧ RdG f k w a l ∧ (a = none → l = []) ∧ (∀ b, a = some b → v.ownBlock = some b.block ∧ b = ⟨b.block, 0, none⟩) := by
  rcases h with ⟨rfl, rfl⟩ | ⟨g, cap, cur, rfl, hb, ho⟩
  · exact ⟨none, 0, rfl, Nat.le_refl _, by omega, RdG.nil _ _, fun _ => rfl, fun b e => by cases e⟩
  · exact ⟨some ⟨g, 0, none⟩, cap, rfl, ho.room, ho.max, ho.rd, (fun e => by cases e), (fun b e => by cases e; exact ⟨rfl, rfl⟩)⟩
/-- append of one thing -/
theorem Row.append1 {P : Program} (w : World) (t ty : TypeId) (i : TypeInfo) (z : Value) (bytes base : Nat) (ht : P.underlying t = some (.slice e)) (hi : P.info? e = some i) (hz : i.zero = some z)
    (hsize : i.size = k) (hby : i.bytes = bytes) (hzs : z.cells.size = k) (hk : 0 < k) (v : Value) (l : List α) (h : Row f k e w base v l) (hb : base ≤ w.heap.size) (hf : ∀ x ∈ l, (f x).length = k)
    (g1 c1 : Nat) (x : α) (hx : (f x).length = k) (hone : ∀ v ∈ f x, v.oneCell' = true) (hg1 : Bk w g1 (f x).toArray e) (h63 : l.length + 1 ≤ 9223372036854775807) (hbytes : (l.length + 1) * bytes ≤ 140737488355328) :
    ∃ v' w', (Builtin.append_ #[t, t] ty #[v, .slice (some ⟨g1, 0, none⟩) 1 c1]).run P w = .ok v' w' ∧ Row f k e w' base v' (l ++ [x]) ∧ Fr (fun i => v.ownBlock = some i) w w' ∧ (∀ g, v'.ownBlock = some g → v.ownBlock = some g ∨ w.heap.size ≤ g) := by
  rcases h with ⟨rfl, rfl⟩ | ⟨g, cap, cur, rfl, hbg, ho⟩
  · obtain ⟨g, cap, cur, w', hr, hg, how, hfr⟩ := GApp.run_append_one (P := P) w t ty i z bytes ht hi hz hsize hby hzs hk none 0 [] rfl (RdG.nil _ _) (fun _ h => by cases h) g1 c1 x hx hg1 (by simp) (by simpa using hbytes) (fun _ => rfl)
    refine ⟨_, w', hr, .inr ⟨g, cap, cur, rfl, Nat.le_trans hb hg, how⟩, hfr.weaken (fun _ _ h => h.elim), fun g' e => .inr ?_⟩
    simp only [Value.ownBlock, Option.some.injEq] at e
    omega
  · obtain ⟨v', w', hr, hown, hgr, -⟩ := run_append_own (P := P) w base t ty e i z k bytes ht hi hz hsize hby hzs hk _ l.length (flat f l) (own_row hf ho hbg) ⟨g1, 0, none⟩ 1 c1 (f x) (by rw [hx, Nat.one_mul]) (fun j u hu => by rw [add_form, Nat.zero_add, Bk.cell hg1, List.getElem?_toArray]; exact hu) hone (by unfold maxLen; omega) hbytes hb
    have e1 : flat f l ++ f x = flat f (l ++ [x]) := by rw [flat_append, flat_cons, flat_nil, List.append_nil]
    rw [e1] at hown
    have hfl : ∀ y ∈ l ++ [x], (f y).length = k := fun y hy => by
      rcases List.mem_append.1 hy with h | h
      · exact hf y h
      · simp only [List.mem_cons, List.not_mem_nil, or_false] at h; subst h; exact hx
    obtain ⟨g', cap', cur', rfl, hb', ho'⟩ := own_of hfl hk hown (by simp) (by omega)
    refine ⟨_, w', hr, .inr ⟨g', cap', cur', by simp, hb', ho'⟩, ⟨hgr.os, hgr.tape, hgr.output, hgr.size, fun i hi hs => hgr.block i hi (by simp only [Value.ownBlock] at hs ⊢; exact fun e => hs e.symm)⟩, fun q q_e => ?_⟩
    have hnews : ∀ (j : Nat) (u : Value), (f x)[j]? = some u → w.cell? ((⟨g1, 0, none⟩ : Addr).add j) = some u := fun j u hu => by rw [add_form, Nat.zero_add, Bk.cell hg1, List.getElem?_toArray]; exact hu
    by_cases hroom : l.length + 1 ≤ cap
    · have h2 := run_append_room (P := P) w t ty e i ht hi g l.length cap cur ho.blk ⟨g1, 0, none⟩ 1 c1 (f x) (by rw [hx, hsize, Nat.one_mul]) hnews hone hroom (by rw [hsize, hx, ho.size, ← Nat.succ_mul]; exact Nat.mul_le_mul_right _ hroom)
      have h3 := hr.symm.trans h2
      injection h3 with h4 h5
      injection h4 with h6 h7 h8
      injection h6 with h9
      injection h9 with h10
      simp only [Value.ownBlock, Option.some.injEq] at q_e ⊢
      left
      omega
    · have h2 := run_append_grow (P := P) w t ty e i z ht hi hz ⟨g, 0, none⟩ l.length cap (flat f l) (by rw [flat_length hf, hsize]) (ho.rd.cells hf hk) ⟨g1, 0, none⟩ 1 c1 (f x) (by rw [hx, hsize, Nat.one_mul]) hnews (by omega) (by omega) (by rw [hby]; exact growslice_fits (by omega) hbytes)
      have h3 := hr.symm.trans h2
      injection h3 with h4 h5
      injection h4 with h6 h7 h8
      injection h6 with h9
      injection h9 with h10
      simp only [Value.ownBlock, Option.some.injEq] at q_e ⊢
      right
      omega
end
end Go.Proofs.YtmkmpfnadcmcoaaDoor.RowG
