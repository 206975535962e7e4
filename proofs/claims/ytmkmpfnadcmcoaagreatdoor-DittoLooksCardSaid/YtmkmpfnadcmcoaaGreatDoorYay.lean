/- The theorems that the claim uses, text behind text (part 25). -/
import Derived.Test.YtmkmpfnadcmcoaaGreatDoorYag
import Derived.Test.YtmkmpfnadcmcoaaGreatDoorYal
import Derived.Test.YtmkmpfnadcmcoaaGreatDoorYaw
import Derived.Test.YtmkmpfnadcmcoaaGreatDoorYax
set_option maxRecDepth 100000
set_option maxHeartbeats 8000000
set_option linter.unusedVariables false
set_option linter.unusedSimpArgs false
namespace Go.Proofs.YtmkmpfnadcmcoaaGreatDoor.PtrOf
open Go Go.RowKit K EqKit PtrKit ArrKit HeldKit PtrAsk PtrRRight ShaStep ShaRef ShaSum ShaRSum
theorem wpList_load_row_g {P : Program} {ops : Array Oper} {rest : List Oper} {o : Oper} {a : Act} {w : World} {Q : Exit → Act → World → Prop} (hw : Region.wanted o (yielded ops a.tmps) = true) (ty : TypeId) (x : Operand) (ho : o.op = .load ty x)
  (g : Nat) (hx : a.eval x = .pointer (some ⟨g, 0, none⟩)) (t : TypeId) (cs : Array Value) (fr : Nat × Nat) (d : TypeDesc) (hg : w.heap[g]? = some (.cells cs t fr))
  (hu : P.underlying ty = some d) (hd : (match d with | .struct _ | .array _ _ => true | _ => false) = true) (hi : (P.info? ty).map (·.size) = some cs.size)
  (h : wpList P ops Q rest (a.put o.dst (.agg cs)) w) : wpList P ops Q (o :: rest) a w := by
 unfold wpList
 rw [if_pos hw]
 exact Or.inl (wp_load_row ty x ho g hx t cs fr d hg hu hd hi h)
theorem sets_bk {g : Nat} {t : TypeId} : ∀ (vs : List Value) (o : Nat) (w : World) (cs : Array Value), Bk w g cs t → Bk (w.setCells g o vs) g (lay cs o vs) t
 | [], _, _, _, h => h
 | v :: r, o, w, cs, h => sets_bk r (o + 1) _ _ (h.set o v)
theorem sets_fr {g : Nat} {w0 : World} : ∀ (vs : List Value) (o : Nat) (w : World), Fr (· = g) w0 w → Fr (· = g) w0 (w.setCells g o vs)
 | [], _, _, h => h
 | v :: r, o, w, h => sets_fr r (o + 1) _ (h.set _ _ (.inr rfl))
def okB (a c : Int) : Bool := secB a && (decide (c = -1) || (secB c && !decide (c = a)))
def YL (a c : Int) : Array Value := #[.int .i64 a, .int .i64 c, .int .u8 0, .int .u8 0, .int .u8 0, .int .u8 0, .int .u8 0, .int .u8 0, .int .u8 0, .int .u8 0, .int .u8 0, .int .u8 0, .int .u8 0, .int .u8 0, .int .u8 0, .int .u8 0, .int .u8 0, .int .u8 0, .int .u8 0, .int .u8 0, .int .u8 0, .int .u8 0, .int .u8 0, .int .u8 0, .int .u8 0, .int .u8 0, .int .u8 0, .int .u8 0, .int .u8 0, .int .u8 0, .int .u8 0, .int .u8 0, .int .u8 0, .int .u8 0]
theorem YL_eq (a c : Int) : YL a c = (PC a c Z).toArray := rfl
theorem YL_one (a c : Int) : (YL a c).all (·.oneCell') = true := by simp [YL, Value.oneCell']
theorem ZERO_one : ZERO.all (·.oneCell') = true := by kernel_rfl
theorem lay_YL (a c : Int) (s : List UInt8) (hs : s.length = 32) : lay (YL a c) 2 (s.map B).toArray.toList = (PC a c s).toArray := by
 apply Array.ext_getElem?
 intro i
 rw [lay_get]
 simp only [List.length_map, hs]
 have h34 : (YL a c).size = 34 := rfl
 by_cases h : 2 ≤ i ∧ i < 2 + 32 ∧ i < (YL a c).size
 ·rw [if_pos h]
  obtain ⟨j, rfl⟩ : ∃ j, i = j + 2 := ⟨i - 2, by omega⟩
  simp [PC]
 ·rw [if_neg h]
  match i, h with
  | 0, _ => rfl
  | 1, _ => rfl
  | j + 2, h => rw [Array.getElem?_eq_none (by omega), Array.getElem?_eq_none (by simp [PC, hs];omega)]
theorem there_YL {w : World} {g : Nat} {t : TypeId} {a c : Int} {n : Nat} (h : Bk w g (YL a c) t) (hn : n = 32) : w.there g 2 n := fun j hj => ⟨by
 have h34 : (YL a c).size = 34 := rfl
 rw [Bk.cell h, Array.getElem?_eq_getElem (by omega)]
 rfl, Bk.free h _⟩
theorem set_YL {w : World} {g : Nat} {t : TypeId} {a c : Int} {s : List UInt8} (h : Bk w g (YL a c) t) (hs : s.length = 32) : Bk (w.setCells g 2 (s.map B).toArray.toList) g (PC a c s).toArray t := by
 have := sets_bk (s.map B).toArray.toList 2 _ _ h
 rw [lay_YL a c s hs] at this
 exact this
theorem sec_eq (n : Int) (r : Bool) (w : World) (h : secB n = r) : Calls Tryz.prog 56 #[.int .i64 n] w fun e w' => e = .returned (.bool r) ∧ w = w' := h ▸ sec_calls n w
theorem of_no1 (bl : List UInt8) (a c : Int) (w : World) (k1 : Jq7 (secB a = false)) :
  Calls Tryz.prog 30 #[.agg (bl.map B).toArray, .int .i64 a, .int .i64 c] w fun e w' => e = .returned (.tuple #[.agg ZERO, .int .i64 1]) ∧ Fr0 w w' := by
 generalize (bl.map B).toArray = X
 have HI : Jq7 ((Tryz.prog.info? 31).map (·.size) = some (YL a c).size) := jq7 info_p
 have hs2 : ((w.alloc (.cells X 36)).alloc (.cells ZERO 31)).heap.size = w.heap.size + 1 + 1 := by simp
 have HNP : Jq7 (Bk (((w.alloc (.cells X 36)).alloc (.cells ZERO 31)).alloc (.cells ZERO 31)) (w.heap.size + 1 + 1) ZERO 31) := jq7 (by have := Bk.new ((w.alloc (.cells X 36)).alloc (.cells ZERO 31)) (.cells ZERO 31);rwa [hs2] at this)
 have hs1 : (w.alloc (.cells X 36)).heap.size = w.heap.size + 1 := by simp
 have HNR : Jq7 (Bk (((w.alloc (.cells X 36)).alloc (.cells ZERO 31)).alloc (.cells ZERO 31)) (w.heap.size + 1) ZERO 31) := jq7 (Bk.alloc (by have := Bk.new (w.alloc (.cells X 36)) (.cells ZERO 31);rwa [hs1] at this) _)
 have HNX : Jq7 (Bk (((w.alloc (.cells X 36)).alloc (.cells ZERO 31)).alloc (.cells ZERO 31)) w.heap.size X 36) := jq7 (Bk.alloc (Bk.alloc (Bk.new w _) _) _)
 have HNF : Jq7 (Fr0 w (((w.alloc (.cells X 36)).alloc (.cells ZERO 31)).alloc (.cells ZERO 31))) := jq7 (Fr.alloc (Fr.alloc (Fr.alloc (Fr.refl _ _) _) _) _)
 have GP : Jq7 (Bk ((((w.alloc (.cells X 36)).alloc (.cells ZERO 31)).alloc (.cells ZERO 31)).setRow (w.heap.size + 1 + 1) (YL a c)) (w.heap.size + 1 + 1) (YL a c) 31) := jq7 (ArrKit.Bk.row HNP.o _)
 have GR : Jq7 (Bk ((((w.alloc (.cells X 36)).alloc (.cells ZERO 31)).alloc (.cells ZERO 31)).setRow (w.heap.size + 1 + 1) (YL a c)) (w.heap.size + 1) ZERO 31) := jq7 (ArrKit.Bk.rowOther HNR.o _ (by omega))
 have GX : Jq7 (Bk ((((w.alloc (.cells X 36)).alloc (.cells ZERO 31)).alloc (.cells ZERO 31)).setRow (w.heap.size + 1 + 1) (YL a c)) w.heap.size X 36) := jq7 (ArrKit.Bk.rowOther HNX.o _ (by omega))
 have GF : Jq7 (Fr0 w ((((w.alloc (.cells X 36)).alloc (.cells ZERO 31)).alloc (.cells ZERO 31)).setRow (w.heap.size + 1 + 1) (YL a c))) := jq7 (ArrKit.Fr.row HNF.o _ _ (.inl (by omega)))
 clear hs1 hs2
 generalize hw3 : (((w.alloc (.cells X 36)).alloc (.cells ZERO 31)).alloc (.cells ZERO 31)).setRow (w.heap.size + 1 + 1) (YL a c) = w3 at *
 go_enter Tryz.func30, Tryz.ntmps30
 go_wp2_with (first | (refine wpList_store_row rfl 31 _ _ rfl (w.heap.size + 1 + 1) (YL a c) rfl rfl 31 ZERO HNP.o HI.o (by rfl) (YL_one a c) ?_;change wpList _ _ _ _ _ ((((w.alloc (.cells X 36)).alloc (.cells ZERO 31)).alloc (.cells ZERO 31)).setRow (w.heap.size + 1 + 1) (YL a c));rw [hw3]) | (refine wpList_store_row rfl 31 _ _ rfl (w.heap.size + 1) ZERO rfl rfl 31 ZERO GR.o info_p rfl ZERO_one ?_) | (go_at_call 56;(with_reducible refine (sec_eq a false _ k1.o).mono ?_);rintro e w2 ⟨rfl, rfl⟩))
 refine fin_ct (w.heap.size + 1) 31 ZERO (.int .i64 1) (by rfl) (by rfl) (by rfl) (by rfl) Tryz.underlying31 (by rfl) info_p (ArrKit.Bk.row GR.o _) ?_
 exact ⟨rfl, ArrKit.Fr.row GF.o _ _ (.inl (by omega))⟩
theorem of_no2 (bl : List UInt8) (a c : Int) (w : World) (k1 : Jq7 (secB a = true)) (ha : (Lit.int .i64 a).wf = true) (hc : (Lit.int .i64 c).wf = true) (k2 : rightB a c Z = false) :
  Calls Tryz.prog 30 #[.agg (bl.map B).toArray, .int .i64 a, .int .i64 c] w fun e w' => e = .returned (.tuple #[.agg ZERO, .int .i64 1]) ∧ Fr0 w w' := by
 have HRT : Jq7 (∀ w, Calls Tryz.prog 39 #[.agg (YL a c)] w fun e w' => e = .returned (.bool false) ∧ Fr0 w w') := jq7 (fun w => by
  have := right_calls a c Z w Z_len ha hc
  rwa [k2, ← YL_eq] at this)
 clear ha hc k2
 generalize (bl.map B).toArray = X
 have HI : Jq7 ((Tryz.prog.info? 31).map (·.size) = some (YL a c).size) := jq7 info_p
 have hs2 : ((w.alloc (.cells X 36)).alloc (.cells ZERO 31)).heap.size = w.heap.size + 1 + 1 := by simp
 have HNP : Jq7 (Bk (((w.alloc (.cells X 36)).alloc (.cells ZERO 31)).alloc (.cells ZERO 31)) (w.heap.size + 1 + 1) ZERO 31) := jq7 (by have := Bk.new ((w.alloc (.cells X 36)).alloc (.cells ZERO 31)) (.cells ZERO 31);rwa [hs2] at this)
 have hs1 : (w.alloc (.cells X 36)).heap.size = w.heap.size + 1 := by simp
 have HNR : Jq7 (Bk (((w.alloc (.cells X 36)).alloc (.cells ZERO 31)).alloc (.cells ZERO 31)) (w.heap.size + 1) ZERO 31) := jq7 (Bk.alloc (by have := Bk.new (w.alloc (.cells X 36)) (.cells ZERO 31);rwa [hs1] at this) _)
 have HNX : Jq7 (Bk (((w.alloc (.cells X 36)).alloc (.cells ZERO 31)).alloc (.cells ZERO 31)) w.heap.size X 36) := jq7 (Bk.alloc (Bk.alloc (Bk.new w _) _) _)
 have HNF : Jq7 (Fr0 w (((w.alloc (.cells X 36)).alloc (.cells ZERO 31)).alloc (.cells ZERO 31))) := jq7 (Fr.alloc (Fr.alloc (Fr.alloc (Fr.refl _ _) _) _) _)
 have GP : Jq7 (Bk ((((w.alloc (.cells X 36)).alloc (.cells ZERO 31)).alloc (.cells ZERO 31)).setRow (w.heap.size + 1 + 1) (YL a c)) (w.heap.size + 1 + 1) (YL a c) 31) := jq7 (ArrKit.Bk.row HNP.o _)
 have GR : Jq7 (Bk ((((w.alloc (.cells X 36)).alloc (.cells ZERO 31)).alloc (.cells ZERO 31)).setRow (w.heap.size + 1 + 1) (YL a c)) (w.heap.size + 1) ZERO 31) := jq7 (ArrKit.Bk.rowOther HNR.o _ (by omega))
 have GX : Jq7 (Bk ((((w.alloc (.cells X 36)).alloc (.cells ZERO 31)).alloc (.cells ZERO 31)).setRow (w.heap.size + 1 + 1) (YL a c)) w.heap.size X 36) := jq7 (ArrKit.Bk.rowOther HNX.o _ (by omega))
 have GF : Jq7 (Fr0 w ((((w.alloc (.cells X 36)).alloc (.cells ZERO 31)).alloc (.cells ZERO 31)).setRow (w.heap.size + 1 + 1) (YL a c))) := jq7 (ArrKit.Fr.row HNF.o _ _ (.inl (by omega)))
 clear hs1 hs2
 generalize hw3 : (((w.alloc (.cells X 36)).alloc (.cells ZERO 31)).alloc (.cells ZERO 31)).setRow (w.heap.size + 1 + 1) (YL a c) = w3 at *
 go_enter Tryz.func30, Tryz.ntmps30
 go_wp2_with (first | (refine wpList_store_row rfl 31 _ _ rfl (w.heap.size + 1 + 1) (YL a c) rfl rfl 31 ZERO HNP.o HI.o (by rfl) (YL_one a c) ?_;change wpList _ _ _ _ _ ((((w.alloc (.cells X 36)).alloc (.cells ZERO 31)).alloc (.cells ZERO 31)).setRow (w.heap.size + 1 + 1) (YL a c));rw [hw3]) | (refine wpList_store_row rfl 31 _ _ rfl (w.heap.size + 1) ZERO rfl rfl 31 ZERO GR5.o info_p rfl ZERO_one ?_) | (go_at_call 56;(with_reducible refine (sec_eq a true _ k1.o).mono ?_);rintro e w2 ⟨rfl, rfl⟩) | (refine wpList_load_row_g (by rfl) 31 _ rfl (w.heap.size + 1 + 1) rfl 31 (YL a c) (0, 0) _ GP.o Tryz.underlying31 rfl HI.o ?_) | (go_at_call 39;(refine (HRT.o _).mono ?_);rintro e w5 ⟨rfl, hf5⟩;have GR5 : Jq7 (Bk w5 (w.heap.size + 1) ZERO 31) := kq0 hf5 GR;have GF5 := fq0 GF hf5;clear hf5))
 refine fin_ct (w.heap.size + 1) 31 ZERO (.int .i64 1) (by rfl) (by rfl) (by rfl) (by rfl) Tryz.underlying31 (by rfl) info_p (ArrKit.Bk.row GR5.o _) ?_
 exact ⟨rfl, ArrKit.Fr.row GF5.o _ _ (.inl (by omega))⟩
theorem of_yes (bl : List UInt8) (hbl : bl.length = 128) (a c : Int) (w : World) (k1 : Jq7 (secB a = true)) (ha : (Lit.int .i64 a).wf = true) (hc : (Lit.int .i64 c).wf = true) (k2 : rightB a c Z = true) {tk tb : TypeId} (hK : Bk w 1 KC tk) (hB : Bk w 0 HB8 tb) :
  Calls Tryz.prog 30 #[.agg (bl.map B).toArray, .int .i64 a, .int .i64 c] w fun e w' => e = .returned (.tuple #[.agg (PC a c (sumOf bl)).toArray, .int .i64 0]) ∧ Fr0 w w' := by
 have HRT : Jq7 (∀ w, Calls Tryz.prog 39 #[.agg (YL a c)] w fun e w' => e = .returned (.bool true) ∧ Fr0 w w') := jq7 (fun w => by
  have := right_calls a c Z w Z_len ha hc
  rwa [k2, ← YL_eq] at this)
 have HK := jq7 hK
 have HB := jq7 hB
 have HBL := jq7 hbl
 have HSM : Jq7 (∀ (W : World), Rd W (some ⟨w.heap.size, 0, none⟩) bl → Bk W 1 KC tk → Bk W 0 HB8 tb → Calls Tryz.prog 57 #[.slice (some ⟨w.heap.size, 0, none⟩) 128 128] W fun e w' => e = .returned (.agg ((sumOf bl).map B).toArray) ∧ Fr0 W w') := jq7 (fun W h1 h2 h3 => sum_calls (some ⟨w.heap.size, 0, none⟩) 128 128 bl W hbl h1 (by omega) h2 h3)
 have hsl := sumOf_length bl
 generalize sumOf bl = sm at *
 have HSL := jq7 hsl
 have HIS : Jq7 ((Tryz.prog.info? 29).map (·.size) = some ((sm).map B).toArray.size) := jq7 (by rw [info32a, List.size_toArray, List.length_map, HSL.o])
 have HSO : Jq7 (((sm).map B).toArray.all (·.oneCell') = true) := jq7 (by simp [B, Value.oneCell'])
 have HIP : Jq7 ((Tryz.prog.info? 31).map (·.size) = some (PC a c (sm)).toArray.size) := jq7 (by rw [info_p, List.size_toArray, PC_length, HSL.o])
 have HPZ : Jq7 (ZERO.size = (PC a c (sm)).toArray.size) := jq7 ((show ZERO.size = 34 from rfl).trans (by rw [List.size_toArray, PC_length, HSL.o]))
 have HPO : Jq7 ((PC a c (sm)).toArray.all (·.oneCell') = true) := jq7 (by simp [PC, B, Value.oneCell'])
 clear ha hc k2 hK hB hbl hsl
 generalize hxx : (bl.map B).toArray = X at *
 have HXX := jq7 hxx
 clear hxx
 have HI : Jq7 ((Tryz.prog.info? 31).map (·.size) = some (YL a c).size) := jq7 info_p
 have hs2 : ((w.alloc (.cells X 36)).alloc (.cells ZERO 31)).heap.size = w.heap.size + 1 + 1 := by simp
 have HNP : Jq7 (Bk (((w.alloc (.cells X 36)).alloc (.cells ZERO 31)).alloc (.cells ZERO 31)) (w.heap.size + 1 + 1) ZERO 31) := jq7 (by have := Bk.new ((w.alloc (.cells X 36)).alloc (.cells ZERO 31)) (.cells ZERO 31);rwa [hs2] at this)
 have hs1 : (w.alloc (.cells X 36)).heap.size = w.heap.size + 1 := by simp
 have HNR : Jq7 (Bk (((w.alloc (.cells X 36)).alloc (.cells ZERO 31)).alloc (.cells ZERO 31)) (w.heap.size + 1) ZERO 31) := jq7 (Bk.alloc (by have := Bk.new (w.alloc (.cells X 36)) (.cells ZERO 31);rwa [hs1] at this) _)
 have HNX : Jq7 (Bk (((w.alloc (.cells X 36)).alloc (.cells ZERO 31)).alloc (.cells ZERO 31)) w.heap.size X 36) := jq7 (Bk.alloc (Bk.alloc (Bk.new w _) _) _)
 have HNF : Jq7 (Fr0 w (((w.alloc (.cells X 36)).alloc (.cells ZERO 31)).alloc (.cells ZERO 31))) := jq7 (Fr.alloc (Fr.alloc (Fr.alloc (Fr.refl _ _) _) _) _)
 have GP : Jq7 (Bk ((((w.alloc (.cells X 36)).alloc (.cells ZERO 31)).alloc (.cells ZERO 31)).setRow (w.heap.size + 1 + 1) (YL a c)) (w.heap.size + 1 + 1) (YL a c) 31) := jq7 (ArrKit.Bk.row HNP.o _)
 have GR : Jq7 (Bk ((((w.alloc (.cells X 36)).alloc (.cells ZERO 31)).alloc (.cells ZERO 31)).setRow (w.heap.size + 1 + 1) (YL a c)) (w.heap.size + 1) ZERO 31) := jq7 (ArrKit.Bk.rowOther HNR.o _ (by omega))
 have GX : Jq7 (Bk ((((w.alloc (.cells X 36)).alloc (.cells ZERO 31)).alloc (.cells ZERO 31)).setRow (w.heap.size + 1 + 1) (YL a c)) w.heap.size X 36) := jq7 (ArrKit.Bk.rowOther HNX.o _ (by omega))
 have GF : Jq7 (Fr0 w ((((w.alloc (.cells X 36)).alloc (.cells ZERO 31)).alloc (.cells ZERO 31)).setRow (w.heap.size + 1 + 1) (YL a c))) := jq7 (ArrKit.Fr.row HNF.o _ _ (.inl (by omega)))
 clear hs1 hs2
 generalize hw3 : (((w.alloc (.cells X 36)).alloc (.cells ZERO 31)).alloc (.cells ZERO 31)).setRow (w.heap.size + 1 + 1) (YL a c) = w3 at *
 go_enter Tryz.func30, Tryz.ntmps30
 go_wp2_with (first | (refine wpList_store_row rfl 31 _ _ rfl (w.heap.size + 1 + 1) (YL a c) rfl rfl 31 ZERO HNP.o HI.o (by rfl) (YL_one a c) ?_;change wpList _ _ _ _ _ ((((w.alloc (.cells X 36)).alloc (.cells ZERO 31)).alloc (.cells ZERO 31)).setRow (w.heap.size + 1 + 1) (YL a c));rw [hw3]) | (go_at_call 56;(with_reducible refine (sec_eq a true _ k1.o).mono ?_);rintro e w2 ⟨rfl, rfl⟩) | (refine wpList_load_row_g (by rfl) 31 _ rfl (w.heap.size + 1 + 1) rfl 31 (YL a c) (0, 0) _ GP.o Tryz.underlying31 rfl HI.o ?_) | (go_at_call 39;(refine (HRT.o _).mono ?_);rintro e w5 ⟨rfl, hf5⟩;have GP5 := kq0 hf5 GP;have GX5 := kq0 hf5 GX;have HR5 : Jq7 (Rd w5 (some ⟨w.heap.size, 0, none⟩) bl) := jq7 (Rd.block GX5.o (fun i hi => by rw [Nat.zero_add, ← HXX.o];simp [hi]));have HK5 := jq7 (hf5.keep (GF.o.keep HK.o (fun h => h)) (fun h => h));have HB5 := jq7 (hf5.keep (GF.o.keep HB.o (fun h => h)) (fun h => h));have GR5 : Jq7 (Bk w5 (w.heap.size + 1) ZERO 31) := kq0 hf5 GR;have GF5 := fq0 GF hf5;clear hf5) | (go_at_call 57;(with_reducible refine (HSM.o _ HR5.o HK5.o HB5.o).mono ?_);rintro e w6 ⟨rfl, hf6⟩;have GP6 := kq0 hf6 GP5;have GR6 := kq0 hf6 GR5;have GF6 := fq0 GF5 hf6;have HTH : Jq7 (w6.there (w.heap.size + 1 + 1) 2 ((sm).map B).toArray.size) := jq7 (there_YL GP6.o (by rw [List.size_toArray, List.length_map, HSL.o]));have GP7 : Jq7 (Bk (w6.setCells (w.heap.size + 1 + 1) 2 ((sm).map B).toArray.toList) (w.heap.size + 1 + 1) (PC a c (sm)).toArray 31) := jq7 (set_YL GP6.o (HSL.o));have GR7 : Jq7 (Bk (w6.setCells (w.heap.size + 1 + 1) 2 ((sm).map B).toArray.toList) (w.heap.size + 1) ZERO 31) := jq7 ((sets_fr ((sm).map B).toArray.toList 2 _ (Fr.refl (· = w.heap.size + 1 + 1) w6)).keep GR6.o (by omega));have GF7 : Jq7 (Fr0 w (w6.setCells (w.heap.size + 1 + 1) 2 ((sm).map B).toArray.toList)) := jq7 (GF6.o.then (sets_fr ((sm).map B).toArray.toList 2 _ (Fr.refl (· = w.heap.size + 1 + 1) w6)) (fun i hi e => by omega));clear hf6) | (refine wpList_store_mid rfl 29 _ _ rfl (w.heap.size + 1 + 1) 2 ((sm).map B).toArray rfl rfl HTH.o HIS.o HSO.o ?_;change wpList _ _ _ _ _ (w6.setCells (w.heap.size + 1 + 1) 2 ((sm).map B).toArray.toList);generalize (w6.setCells (w.heap.size + 1 + 1) 2 ((sm).map B).toArray.toList) = w7 at *) | (refine wpList_load_row rfl 31 _ rfl (w.heap.size + 1 + 1) rfl 31 (PC a c (sm)).toArray (0, 0) _ GP7.o Tryz.underlying31 rfl HIP.o ?_) | (refine wpList_store_row rfl 31 _ _ rfl (w.heap.size + 1) (PC a c (sm)).toArray rfl rfl 31 ZERO GR7.o HIP.o HPZ.o HPO.o ?_))
 refine fin_ct (w.heap.size + 1) 31 (PC a c (sm)).toArray (.int .i64 0) (by rfl) (by rfl) (by rfl) (by rfl) Tryz.underlying31 (by rfl) HIP.o (ArrKit.Bk.row GR7.o _) ?_
 exact ⟨rfl, ArrKit.Fr.row GF7.o _ _ (.inl (by omega))⟩
theorem isH_no (a b : Int) (s : List UInt8) (h : a ≠ -1) : isH a b s = false := decide_eq_false (fun e => h e.1)
theorem right_ok (a c : Int) (s : List UInt8) (h : a ≠ -1) : rightB a c s = okB a c := by rw [rightB, isH_no a c s h, Bool.false_or, okB]
theorem sec_ne {a : Int} (h : secB a = true) : a ≠ -1 := by
 rintro rfl
 simp [secB] at h
def ofP (bl : List UInt8) (a c : Int) : Array Value := if okB a c then (PC a c (sumOf bl)).toArray else ZERO
def ofE (a c : Int) : Int := if okB a c then 0 else 1
theorem of_calls (bl : List UInt8) (hbl : bl.length = 128) (a c : Int) (w : World) (ha : (Lit.int .i64 a).wf = true) (hc : (Lit.int .i64 c).wf = true) {tk tb : TypeId} (hK : Bk w 1 KC tk) (hB : Bk w 0 HB8 tb) :
  Calls Tryz.prog 30 #[.agg (bl.map B).toArray, .int .i64 a, .int .i64 c] w fun e w' => e = .returned (.tuple #[.agg (ofP bl a c), .int .i64 (ofE a c)]) ∧ Fr0 w w' := by
 cases k1 : secB a with
 | false =>
  have e : okB a c = false := by rw [okB, k1, Bool.false_and]
  have := of_no1 bl a c w (jq7 k1)
  simpa only [ofP, ofE, e, Bool.false_eq_true, if_false] using this
 | true =>
  have hr := right_ok a c Z (sec_ne k1)
  cases k2 : okB a c with
  | false =>
   have := of_no2 bl a c w (jq7 k1) ha hc (hr.trans k2)
   simpa only [ofP, ofE, k2, Bool.false_eq_true, if_false] using this
  | true =>
   have := of_yes bl hbl a c w (jq7 k1) ha hc (hr.trans k2) hK hB
   simpa only [ofP, ofE, k2, if_true] using this

end Go.Proofs.YtmkmpfnadcmcoaaGreatDoor.PtrOf
namespace Go.Proofs.YtmkmpfnadcmcoaaGreatDoor.PtrFit
open Go Go.RowKit K EqKit PtrKit ArrKit HeldKit PtrAsk ShaStep ShaRef ShaSum ShaRSum PtrOf
theorem fits_no (a b : Int) (s bl : List UInt8) (w : World) (hs : s.length = 32) (hbl : bl.length = 128) (ha : (Lit.int .i64 a).wf = true) (hb : (Lit.int .i64 b).wf = true) (k0 : isH a b s = false) {tk tb : TypeId} (hK : Bk w 1 KC tk) (hB : Bk w 0 HB8 tb) :
  Calls Tryz.prog 44 #[.agg (PC a b s).toArray, .agg (bl.map B).toArray] w fun e w' => e = .returned (.bool (decide (sumOf bl = s))) ∧ Fr0 w w' := by
 have HSH : Jq7 (∀ W : World, Calls Tryz.prog 21 #[.agg (PC a b s).toArray] W fun e w' => e = .returned (.bool false) ∧ Fr0 W w') := jq7 (fun W => by
  have := ish_calls a b s W hs ha hb
  rw [k0] at this
  exact this)
 have HIP : Jq7 ((Tryz.prog.info? 31).map (·.size) = some (PC a b s).toArray.size) := jq7 (by rw [info_p, List.size_toArray, PC_length, hs])
 generalize hy : (PC a b s).toArray = Y at *
 generalize hxx : (bl.map B).toArray = X at *
 have HYY := jq7 hy
 have HXX := jq7 hxx
 have HK := jq7 hK
 have HB := jq7 hB
 have HP0 : Jq7 (Bk ((w.alloc (.cells Y 31)).alloc (.cells X 36)) w.heap.size Y 31) := jq7 (Bk.alloc (Bk.new w _) _)
 have HF0 : Jq7 (Fr0 w ((w.alloc (.cells Y 31)).alloc (.cells X 36))) := jq7 (Fr.alloc (Fr.alloc (Fr.refl _ _) _) _)
 have HX0 : Jq7 (Bk ((w.alloc (.cells Y 31)).alloc (.cells X 36)) (w.heap.size + 1) X 36) := jq7 (by have := Bk.new (w.alloc (.cells Y 31)) (.cells X 36);rwa [show (w.alloc (.cells Y 31)).heap.size = w.heap.size + 1 by simp] at this)
 have HK0 : Jq7 (Bk ((w.alloc (.cells Y 31)).alloc (.cells X 36)) 1 KC tk) := jq7 (Bk.alloc (Bk.alloc HK.o _) _)
 have HB0 : Jq7 (Bk ((w.alloc (.cells Y 31)).alloc (.cells X 36)) 0 HB8 tb) := jq7 (Bk.alloc (Bk.alloc HB.o _) _)
 have HRG : Jq7 (∀ W : World, W.heap[w.heap.size]? = some (.cells Y 31 (0, 0)) → W.rangeAt w.heap.size 2 (s.map B)) := jq7 (fun W h j v hj => by
  rw [Bk.cell h, ← hy, PC, List.getElem?_toArray, Nat.add_comm 2 j]
  simpa using hj)
 have HRD : Jq7 (∀ W : World, W.heap[w.heap.size + 1]? = some (.cells X 36 (0, 0)) → Rd W (some ⟨w.heap.size + 1, 0, none⟩) bl) := jq7 (fun W h => Rd.block h (fun i hi => by rw [Nat.zero_add, ← hxx];simp [hi]))
 have HSM : Jq7 (∀ (W : World), Rd W (some ⟨w.heap.size + 1, 0, none⟩) bl → Bk W 1 KC tk → Bk W 0 HB8 tb → Calls Tryz.prog 57 #[.slice (some ⟨w.heap.size + 1, 0, none⟩) 128 128] W fun e w' => e = .returned (.agg ((sumOf bl).map B).toArray) ∧ Fr0 W w') := jq7 (fun W h1 h2 h3 => sum_calls (some ⟨w.heap.size + 1, 0, none⟩) 128 128 bl W hbl h1 (by omega) h2 h3)
 have HEQ : Jq7 (∀ W, _) := jq7 (eq_bytes (P := Tryz.prog) Tryz.underlying29 Tryz.underlying5 (by kernel_rfl) (by kernel_rfl) (by kernel_rfl) (sumOf bl) s (sumOf_length bl) hs)
 have HIS : Jq7 ((Tryz.prog.info? 29).map (·.size) = some (s.map B).length) := jq7 (by rw [info32a, List.length_map, hs])
 generalize sumOf bl = sm at *
 clear ha hb k0 hK hB hy hxx hs hbl
 go_enter Tryz.func44, Tryz.ntmps44
 go_wp2_with (first | (refine wpList_load_row rfl 31 _ rfl w.heap.size rfl 31 Y (0, 0) _ HP0.o Tryz.underlying31 rfl HIP.o ?_) | (go_at_call 21;(with_reducible refine (HSH.o _).mono ?_);rintro e w3 ⟨rfl, hf3⟩;have HF3 := fq0 HF0 hf3;have H3h := jq7 (Held.cons (hf3.keep HP0.o (fun h => h)) (Held.cons (hf3.keep HX0.o (fun h => h)) (Held.cons (hf3.keep HK0.o (fun h => h)) (Held.cons (hf3.keep HB0.o (fun h => h)) (Held.nil HF3.o)))));clear hf3))
 have H3 := H3h.o
 refine wp_region_noPanic ?_
 refine wp_region_held_drew (S := (Held w [(w.heap.size, .cells Y 31 (0, 0)), (w.heap.size + 1, .cells X 36 (0, 0)), (1, .cells KC tk (0, 0)), (0, .cells HB8 tb (0, 0))])) (by kernel_rfl) (Held.drew H3) (fun hL0 => ?_)
 change wpAnyH _ _ _ _ _ 6 #[false, false, false, false, false, false] _ _
 refine wpAnyH_take (i := 0) (v := (.slice (some ⟨w.heap.size + 1, 0, none⟩) 128 128)) rfl (by kernel_rfl) (by kernel_rfl) (by kernel_rfl) (fun _ _ _ h => h) (Or.inl ⟨by kernel_rfl, fun w hSw => by kernel_rfl⟩) hL0 ?_
 simp only [Act.put, List.getElem_toArray, List.getElem_cons_succ, List.getElem_cons_zero, List.setIfInBounds_toArray, List.set_cons_zero, List.set_cons_succ]
 change wpAnyH _ _ _ _ _ 5 #[true, false, false, false, false, false] _ _
 refine wpAnyH_take (i := 2) (v := (.pointer (some ⟨w.heap.size, 2, none⟩))) rfl (by kernel_rfl) (by kernel_rfl) (by kernel_rfl) (fun _ _ _ h => h) (Or.inl ⟨by kernel_rfl, fun w hSw => by kernel_rfl⟩) hL0 ?_
 simp only [Act.put, List.getElem_toArray, List.getElem_cons_succ, List.getElem_cons_zero, List.setIfInBounds_toArray, List.set_cons_zero, List.set_cons_succ]
 change wpAnyH _ _ _ _ _ 4 #[true, false, true, false, false, false] _ _
 refine wpAnyH_take (i := 3) (v := (.agg (s.map B).toArray)) rfl (by kernel_rfl) (by kernel_rfl) (by kernel_rfl) (fun _ _ _ h => h) (yieldsIf_load_mid (by kernel_rfl) 29 _ rfl w.heap.size 2 rfl (s.map B) _ (fun W h => HRG.o W (Held.a0 h)) Tryz.underlying29 rfl HIS.o) hL0 ?_
 simp only [Act.put, List.getElem_toArray, List.getElem_cons_succ, List.getElem_cons_zero, List.setIfInBounds_toArray, List.set_cons_zero, List.set_cons_succ]
 change wpAnyH _ _ _ _ _ 3 #[true, false, true, true, false, false] _ _
 refine rd1 1 rfl fun K hK => ?_
 simp only [List.getElem_toArray, List.getElem_cons_succ, List.getElem_cons_zero]
 go_wp2_with fail
 refine (HSM.o _ (HRD.o _ (Held.a0 (Held.tl hL0))) (Held.a0 (Held.tl (Held.tl hL0))) (Held.a0 (Held.tl (Held.tl (Held.tl hL0))))).mono ?_
 rintro e wx0 ⟨rfl, hfx0⟩
 dsimp only
 refine hK.out _ _ (Held.keep hfx0 hL0) (fun hL1 => ?_)
 clear hK K hL0
 change wpAnyH _ _ _ _ _ 2 #[true, true, true, true, false, false] _ _
 refine wpAnyH_take (i := 4) (v := .bool (decide (sm = s))) rfl (by kernel_rfl) (by kernel_rfl) (by kernel_rfl) (fun _ _ _ h => h) (Or.inl ⟨by kernel_rfl, fun w hSw => run_eql_op rfl rfl rfl (by kernel_rfl) HEQ.o w⟩) hL1 ?_
 simp only [Act.put, List.getElem_toArray, List.getElem_cons_succ, List.getElem_cons_zero, List.setIfInBounds_toArray, List.set_cons_zero, List.set_cons_succ]
 change wpAnyH _ _ _ _ _ 1 #[true, true, true, true, true, false] _ _
 refine rd1 5 rfl fun K hK => ?_
 simp only [List.getElem_toArray, List.getElem_cons_succ, List.getElem_cons_zero]
 go_wp2_with fail
 refine hK.out _ _ hL1 (fun _ => ?_)
 clear hK K
 change wpAnyH _ _ _ _ _ 0 #[true, true, true, true, true, true] _ _
 refine wpAnyH_done (by kernel_rfl) ?_ _
 refine NoPanic.normal ?_
 have HFIN := jq7 (Held.f hL1)
 have HEND := jq7 hL1
 clear hL1
 go_wp2_with fail
 all_goals go_ret
 exact ⟨by kernel_rfl, HFIN.o⟩

end Go.Proofs.YtmkmpfnadcmcoaaGreatDoor.PtrFit
namespace Go.Proofs.YtmkmpfnadcmcoaaGreatDoor.PtrROf
open Go Go.RowKit K EqKit PtrKit ArrKit HeldKit PtrAsk PtrRRight ShaStep ShaRef ShaSum ShaRSum PtrOf
theorem build_ev {P : Program} {ops : Array Oper} {rest : List Oper} {o : Oper} {a : Act} {w : World} {Q : Exit → Act → World → Prop} (hg : o.guard = none) (t : TypeId) (parts : Array (Nat × Operand)) (ho : o.op = .build t parts) (L : List (Nat × Value))
  (hp : (parts.map fun (i, x) => (i, a.eval x)).toList = L) (cs : Array Value) (hf : P.built t L = some cs) (h : wpList P ops Q rest (a.put o.dst (.agg cs)) w) : wpList P ops Q (o :: rest) a w :=
 PtrAsk.build_eq hg t parts ho cs (by rw [hp];exact hf) h
end Go.Proofs.YtmkmpfnadcmcoaaGreatDoor.PtrROf
namespace Go.Proofs.YtmkmpfnadcmcoaaGreatDoor.PtrRFit
open Go Go.RowKit K EqKit PtrKit ArrKit HeldKit PtrAsk ShaStep ShaRef ShaSum ShaRSum PtrOf PtrFit WordTake
theorem fits_hole (a b : Int) (s bl : List UInt8) (w : World) (hs : s.length = 32) (hbl : bl.length = 128) (ha : (Lit.int .i64 a).wf = true) (hb : (Lit.int .i64 b).wf = true) (k0 : isH a b s = true) :
  Calls Tryz.prog 44 #[.agg (PC a b s).toArray, .agg (bl.map B).toArray] w fun e w' => e = .returned (.bool (allZ bl)) ∧ Fr0 w w' := by
 have HSH : Jq7 (∀ W : World, Calls Tryz.prog 21 #[.agg (PC a b s).toArray] W fun e w' => e = .returned (.bool true) ∧ Fr0 W w') := jq7 (fun W => by
  have := ish_calls a b s W hs ha hb
  rw [k0] at this
  exact this)
 have HIP : Jq7 ((Tryz.prog.info? 31).map (·.size) = some (PC a b s).toArray.size) := jq7 (by rw [info_p, List.size_toArray, PC_length, hs])
 generalize hy : (PC a b s).toArray = Y at *
 generalize hxx : (bl.map B).toArray = X at *
 have HXX := jq7 hxx
 have HP0 : Jq7 (Bk ((w.alloc (.cells Y 31)).alloc (.cells X 36)) w.heap.size Y 31) := jq7 (Bk.alloc (Bk.new w _) _)
 have HF0 : Jq7 (Fr0 w ((w.alloc (.cells Y 31)).alloc (.cells X 36))) := jq7 (Fr.alloc (Fr.alloc (Fr.refl _ _) _) _)
 have HX0 : Jq7 (Bk ((w.alloc (.cells Y 31)).alloc (.cells X 36)) (w.heap.size + 1) X 36) := jq7 (by have := Bk.new (w.alloc (.cells Y 31)) (.cells X 36);rwa [show (w.alloc (.cells Y 31)).heap.size = w.heap.size + 1 by simp] at this)
 have HRD : Jq7 (∀ W : World, W.heap[w.heap.size + 1]? = some (.cells X 36 (0, 0)) → Rd W (some ⟨w.heap.size + 1, 0, none⟩) bl) := jq7 (fun W h => Rd.block h (fun i hi => by rw [Nat.zero_add, ← hxx];simp [hi]))
 have HZ : Jq7 (∀ (W : World), Rd W (some ⟨w.heap.size + 1, 0, none⟩) bl → Calls Tryz.prog 68 #[.slice (some ⟨w.heap.size + 1, 0, none⟩) 128 128] W fun e w' => e = .returned (.bool (allZ bl)) ∧ W = w') := jq7 (fun W h1 => zero_calls (some ⟨w.heap.size + 1, 0, none⟩) 128 128 bl W hbl h1 (by omega) (by omega) (by omega))
 clear ha hb k0 hy hxx hs hbl
 go_enter Tryz.func44, Tryz.ntmps44
 go_wp2_with (first | (refine wpList_load_row rfl 31 _ rfl w.heap.size rfl 31 Y (0, 0) _ HP0.o Tryz.underlying31 rfl HIP.o ?_) | (go_at_call 21;(with_reducible refine (HSH.o _).mono ?_);rintro e w3 ⟨rfl, hf3⟩;have HF3 := fq0 HF0 hf3;have HX3 := kq0 hf3 HX0;clear hf3) | (go_at_call 68;(with_reducible refine (HZ.o _ (HRD.o _ HX3.o)).mono ?_);rintro e w4 ⟨rfl, rfl⟩))
 all_goals go_ret
 exact ⟨by kernel_rfl, HF3.o⟩
theorem zeros_all (l : List UInt8) (n : Nat) (h : l.length = n) : decide (l = List.replicate n 0) = allZ l := by
 rw [Bool.eq_iff_iff, decide_eq_true_eq]
 unfold allZ
 rw [List.all_eq_true, List.eq_replicate_iff]
 simp [h]
def Z128 : List UInt8 := List.replicate 128 0
def ZA : Array Value := (Z128.map B).toArray
theorem Z128_len : Z128.length = 128 := by simp [Z128]
theorem rfits_hole (a b : Int) (s bl : List UInt8) (w : World) (hs : s.length = 32) (hbl : bl.length = 128) (ha : (Lit.int .i64 a).wf = true) (hb : (Lit.int .i64 b).wf = true) (k0 : isH a b s = true) :
  Calls Tryz.prog 51 #[.agg (PC a b s).toArray, .agg (bl.map B).toArray] w fun e w' => e = .returned (.bool (allZ bl)) ∧ Fr0 w w' := by
 have HIP : Jq7 ((Tryz.prog.info? 31).map (·.size) = some (PC a b s).toArray.size) := jq7 (by rw [info_p, List.size_toArray, PC_length, hs])
 have heq := eq_ptr a b (-1) (-1) s Z hs Z_len ha hb (by decide) (by decide)
 change ∀ W, (Op.equalIn 10000 31 (.agg (PC a b s).toArray) (.agg HOLE)).run Tryz.prog W = .ok (isH a b s) W at heq
 rw [k0] at heq
 have HEB : Jq7 (∀ W, (Op.equalIn 10000 36 (.agg (bl.map B).toArray) (.agg ZA)).run Tryz.prog W = .ok (allZ bl) W) := jq7 (fun W => by
  rw [← zeros_all bl 128 hbl]
  exact eq_bytes (P := Tryz.prog) Tryz.underlying36 Tryz.underlying5 (by kernel_rfl) (by kernel_rfl) (by kernel_rfl) bl Z128 hbl Z128_len W)
 have HIX : Jq7 ((Tryz.prog.info? 36).map (·.size) = some (bl.map B).toArray.size) := jq7 (by rw [List.size_toArray, List.length_map, hbl];kernel_rfl)
 generalize hy : (PC a b s).toArray = Y at *
 generalize hxx : (bl.map B).toArray = X at *
 have HYY := jq7 hy
 have HXX := jq7 hxx
 have H0 : Jq7 (Held w [(w.heap.size, .cells Y 31 (0, 0)), (w.heap.size + 1, .cells X 36 (0, 0))] ((w.alloc (.cells Y 31)).alloc (.cells X 36))) := jq7 (Held.cons (Bk.alloc (Bk.new w _) _) (Held.cons (by have := Bk.new (w.alloc (.cells Y 31)) (.cells X 36);rwa [show (w.alloc (.cells Y 31)).heap.size = w.heap.size + 1 by simp] at this) (Held.nil (Fr.alloc (Fr.alloc (Fr.refl _ _) _) _))))
 clear ha hb k0 hy hxx hs hbl
 go_enter Tryz.func51, Tryz.ntmps51
 go_wp2_with fail
 refine wp_region_noPanic ?_
 refine wp_region_held_drew (S := (Held w [(w.heap.size, .cells Y 31 (0, 0)), (w.heap.size + 1, .cells X 36 (0, 0))])) (by kernel_rfl) (Held.drew H0.o) (fun hL0 => ?_)
 change wpAnyH _ _ _ _ _ 3 #[false, false, false] _ _
 refine wpAnyH_take (i := 0) (v := .agg Y) rfl (by kernel_rfl) (by kernel_rfl) (by kernel_rfl) (fun _ _ _ h => h) (yields_row (by kernel_rfl) 31 _ rfl w.heap.size rfl 31 Y (0, 0) _ (fun w h => Held.a0 h) Tryz.underlying31 rfl HIP.o) hL0 ?_
 simp only [Act.put, List.getElem_toArray, List.getElem_cons_succ, List.getElem_cons_zero, List.setIfInBounds_toArray, List.set_cons_zero, List.set_cons_succ]
 change wpAnyH _ _ _ _ _ 2 #[true, false, false] _ _
 refine rd1 1 rfl fun K hK => ?_
 simp only [List.getElem_toArray, List.getElem_cons_succ, List.getElem_cons_zero]
 go_wp2_with fail
 refine (rhole_calls _).mono ?_
 rintro e wx0 ⟨rfl, hfx0⟩
 dsimp only
 refine hK.out _ _ (Held.keep hfx0 hL0) (fun hL1 => ?_)
 clear hK K hL0
 change wpAnyH _ _ _ _ _ 1 #[true, true, false] _ _
 refine wpAnyH_take (i := 2) (v := .bool true) rfl (by kernel_rfl) (by kernel_rfl) (by kernel_rfl) (fun _ _ _ h => h) (Or.inl ⟨by kernel_rfl, fun w hSw => run_eql_op rfl rfl rfl guard_p heq w⟩) hL1 ?_
 simp only [Act.put, List.getElem_toArray, List.getElem_cons_succ, List.getElem_cons_zero, List.setIfInBounds_toArray, List.set_cons_zero, List.set_cons_succ]
 change wpAnyH _ _ _ _ _ 0 #[true, true, true] _ _
 refine wpAnyH_done (by kernel_rfl) ?_ _
 refine NoPanic.normal ?_
 have HFIN := jq7 (Held.f hL1)
 have HEND := jq7 hL1
 clear hL1
 have HX3 := jq7 (Held.a0 (Held.tl HEND.o))
 clear HEND
 have heb := HEB.o
 go_wp2_with (first | (refine wpList_load_row rfl 36 _ rfl (w.heap.size + 1) rfl 36 X (0, 0) _ HX3.o Tryz.underlying36 rfl HIX.o ?_) | (refine PtrAsk.build_eq rfl 36 _ rfl ZA (by kernel_rfl) ?_))
 all_goals go_ret
 exact ⟨ret_bb (by kernel_rfl), HFIN.o⟩
theorem rfits_no (a b : Int) (s bl : List UInt8) (w : World) (hs : s.length = 32) (hbl : bl.length = 128) (ha : (Lit.int .i64 a).wf = true) (hb : (Lit.int .i64 b).wf = true) (k0 : isH a b s = false) :
  Calls Tryz.prog 51 #[.agg (PC a b s).toArray, .agg (bl.map B).toArray] w fun e w' => e = .returned (.bool (decide (s = sumOf bl))) ∧ Fr0 w w' := by
 have HIP : Jq7 ((Tryz.prog.info? 31).map (·.size) = some (PC a b s).toArray.size) := jq7 (by rw [info_p, List.size_toArray, PC_length, hs])
 have heq := eq_ptr a b (-1) (-1) s Z hs Z_len ha hb (by decide) (by decide)
 change ∀ W, (Op.equalIn 10000 31 (.agg (PC a b s).toArray) (.agg HOLE)).run Tryz.prog W = .ok (isH a b s) W at heq
 rw [k0] at heq
 have HIS : Jq7 ((Tryz.prog.info? 29).map (·.size) = some (s.map B).length) := jq7 (by rw [info32a, List.length_map, hs])
 have HEQ : Jq7 (∀ W, (Op.equalIn 10000 29 (.agg (s.map B).toArray) (.agg ((sumOf bl).map B).toArray)).run Tryz.prog W = .ok (decide (s = sumOf bl)) W) := jq7 (eq_bytes (P := Tryz.prog) Tryz.underlying29 Tryz.underlying5 (by kernel_rfl) (by kernel_rfl) (by kernel_rfl) s (sumOf bl) hs (sumOf_length bl))
 generalize hy : (PC a b s).toArray = Y at *
 generalize hxx : (bl.map B).toArray = X at *
 have HYY := jq7 hy
 have HXX := jq7 hxx
 have H0 : Jq7 (Held w [(w.heap.size, .cells Y 31 (0, 0)), (w.heap.size + 1, .cells X 36 (0, 0))] ((w.alloc (.cells Y 31)).alloc (.cells X 36))) := jq7 (Held.cons (Bk.alloc (Bk.new w _) _) (Held.cons (by have := Bk.new (w.alloc (.cells Y 31)) (.cells X 36);rwa [show (w.alloc (.cells Y 31)).heap.size = w.heap.size + 1 by simp] at this) (Held.nil (Fr.alloc (Fr.alloc (Fr.refl _ _) _) _))))
 have HRG : Jq7 (∀ W : World, W.heap[w.heap.size]? = some (.cells Y 31 (0, 0)) → W.rangeAt w.heap.size 2 (s.map B)) := jq7 (fun W h j v hj => by
  rw [Bk.cell h, ← hy, PC, List.getElem?_toArray, Nat.add_comm 2 j]
  simpa using hj)
 have HRD : Jq7 (∀ W : World, W.heap[w.heap.size + 1]? = some (.cells X 36 (0, 0)) → Rd W (some ⟨w.heap.size + 1, 0, none⟩) bl) := jq7 (fun W h => Rd.block h (fun i hi => by rw [Nat.zero_add, ← hxx];simp [hi]))
 have HSM : Jq7 (∀ (W : World), Rd W (some ⟨w.heap.size + 1, 0, none⟩) bl → Calls Tryz.prog 75 #[.slice (some ⟨w.heap.size + 1, 0, none⟩) 128 128] W fun e w' => e = .returned (.agg ((sumOf bl).map B).toArray) ∧ Fr0 W w') := jq7 (fun W h1 => rsum_calls (some ⟨w.heap.size + 1, 0, none⟩) 128 128 bl W hbl h1 (by omega))
 generalize sumOf bl = sm at *
 clear ha hb k0 hy hxx hs hbl
 go_enter Tryz.func51, Tryz.ntmps51
 go_wp2_with fail
 refine wp_region_noPanic ?_
 refine wp_region_held_drew (S := (Held w [(w.heap.size, .cells Y 31 (0, 0)), (w.heap.size + 1, .cells X 36 (0, 0))])) (by kernel_rfl) (Held.drew H0.o) (fun hL0 => ?_)
 change wpAnyH _ _ _ _ _ 3 #[false, false, false] _ _
 refine wpAnyH_take (i := 0) (v := .agg Y) rfl (by kernel_rfl) (by kernel_rfl) (by kernel_rfl) (fun _ _ _ h => h) (yields_row (by kernel_rfl) 31 _ rfl w.heap.size rfl 31 Y (0, 0) _ (fun w h => Held.a0 h) Tryz.underlying31 rfl HIP.o) hL0 ?_
 simp only [Act.put, List.getElem_toArray, List.getElem_cons_succ, List.getElem_cons_zero, List.setIfInBounds_toArray, List.set_cons_zero, List.set_cons_succ]
 change wpAnyH _ _ _ _ _ 2 #[true, false, false] _ _
 refine rd1 1 rfl fun K hK => ?_
 simp only [List.getElem_toArray, List.getElem_cons_succ, List.getElem_cons_zero]
 go_wp2_with fail
 refine (rhole_calls _).mono ?_
 rintro e wx0 ⟨rfl, hfx0⟩
 dsimp only
 refine hK.out _ _ (Held.keep hfx0 hL0) (fun hL1 => ?_)
 clear hK K hL0
 change wpAnyH _ _ _ _ _ 1 #[true, true, false] _ _
 refine wpAnyH_take (i := 2) (v := .bool false) rfl (by kernel_rfl) (by kernel_rfl) (by kernel_rfl) (fun _ _ _ h => h) (Or.inl ⟨by kernel_rfl, fun w hSw => run_eql_op rfl rfl rfl guard_p heq w⟩) hL1 ?_
 simp only [Act.put, List.getElem_toArray, List.getElem_cons_succ, List.getElem_cons_zero, List.setIfInBounds_toArray, List.set_cons_zero, List.set_cons_succ]
 change wpAnyH _ _ _ _ _ 0 #[true, true, true] _ _
 refine wpAnyH_done (by kernel_rfl) ?_ _
 refine NoPanic.normal ?_
 have HFIN := jq7 (Held.f hL1)
 have HEND := jq7 hL1
 clear hL1
 go_wp2_with fail
 have H3 := HEND
 clear HEND HFIN
 refine wp_region_noPanic ?_
 refine wp_region_held_drew (S := (Held w [(w.heap.size, .cells Y 31 (0, 0)), (w.heap.size + 1, .cells X 36 (0, 0))])) (by kernel_rfl) (Held.drew H3.o) (fun hL0 => ?_)
 change wpAnyH _ _ _ _ _ 6 #[false, false, false, false, false, false] _ _
 refine wpAnyH_take (i := 0) (v := (.pointer (some ⟨w.heap.size, 2, none⟩))) rfl (by kernel_rfl) (by kernel_rfl) (by kernel_rfl) (fun _ _ _ h => h) (Or.inl ⟨by kernel_rfl, fun w hSw => by kernel_rfl⟩) hL0 ?_
 simp only [Act.put, List.getElem_toArray, List.getElem_cons_succ, List.getElem_cons_zero, List.setIfInBounds_toArray, List.set_cons_zero, List.set_cons_succ]
 change wpAnyH _ _ _ _ _ 5 #[true, false, false, false, false, false] _ _
 refine wpAnyH_take (i := 1) (v := (.agg (s.map B).toArray)) rfl (by kernel_rfl) (by kernel_rfl) (by kernel_rfl) (fun _ _ _ h => h) (yieldsIf_load_mid (by kernel_rfl) 29 _ rfl w.heap.size 2 rfl (s.map B) _ (fun W h => HRG.o W (Held.a0 h)) Tryz.underlying29 rfl HIS.o) hL0 ?_
 simp only [Act.put, List.getElem_toArray, List.getElem_cons_succ, List.getElem_cons_zero, List.setIfInBounds_toArray, List.set_cons_zero, List.set_cons_succ]
 change wpAnyH _ _ _ _ _ 4 #[true, true, false, false, false, false] _ _
 refine wpAnyH_take (i := 2) (v := (.slice (some ⟨w.heap.size + 1, 0, none⟩) 128 128)) rfl (by kernel_rfl) (by kernel_rfl) (by kernel_rfl) (fun _ _ _ h => h) (Or.inl ⟨by kernel_rfl, fun w hSw => by kernel_rfl⟩) hL0 ?_
 simp only [Act.put, List.getElem_toArray, List.getElem_cons_succ, List.getElem_cons_zero, List.setIfInBounds_toArray, List.set_cons_zero, List.set_cons_succ]
 change wpAnyH _ _ _ _ _ 3 #[true, true, true, false, false, false] _ _
 refine rd1 3 rfl fun K hK => ?_
 simp only [List.getElem_toArray, List.getElem_cons_succ, List.getElem_cons_zero]
 go_wp2_with fail
 refine (HSM.o _ (HRD.o _ (Held.a0 (Held.tl hL0)))).mono ?_
 rintro e wx0 ⟨rfl, hfx0⟩
 dsimp only
 refine hK.out _ _ (Held.keep hfx0 hL0) (fun hL1 => ?_)
 clear hK K hL0
 change wpAnyH _ _ _ _ _ 2 #[true, true, true, true, false, false] _ _
 refine wpAnyH_take (i := 4) (v := .bool (decide (s = sm))) rfl (by kernel_rfl) (by kernel_rfl) (by kernel_rfl) (fun _ _ _ h => h) (Or.inl ⟨by kernel_rfl, fun w hSw => run_eql_op rfl rfl rfl (by kernel_rfl) HEQ.o w⟩) hL1 ?_
 simp only [Act.put, List.getElem_toArray, List.getElem_cons_succ, List.getElem_cons_zero, List.setIfInBounds_toArray, List.set_cons_zero, List.set_cons_succ]
 change wpAnyH _ _ _ _ _ 1 #[true, true, true, true, true, false] _ _
 refine rd1 5 rfl fun K hK => ?_
 simp only [List.getElem_toArray, List.getElem_cons_succ, List.getElem_cons_zero]
 go_wp2_with fail
 refine hK.out _ _ hL1 (fun _ => ?_)
 clear hK K
 change wpAnyH _ _ _ _ _ 0 #[true, true, true, true, true, true] _ _
 refine wpAnyH_done (by kernel_rfl) ?_ _
 refine NoPanic.normal ?_
 have HFIN := jq7 (Held.f hL1)
 have HEND := jq7 hL1
 clear hL1
 go_wp2_with fail
 all_goals go_ret
 exact ⟨by kernel_rfl, HFIN.o⟩

end Go.Proofs.YtmkmpfnadcmcoaaGreatDoor.PtrRFit
namespace Go.Proofs.YtmkmpfnadcmcoaaGreatDoor.PtrFitB
open Go Go.RowKit K EqKit PtrKit ArrKit HeldKit PtrAsk ShaStep ShaRef ShaSum ShaRSum PtrOf PtrFit PtrRFit PtrRRight WordTake
def fitB (a b : Int) (s bl : List UInt8) : Bool := if isH a b s then allZ bl else decide (sumOf bl = s)
theorem fits_calls (a b : Int) (s bl : List UInt8) (w : World) (hs : s.length = 32) (hbl : bl.length = 128) (ha : (Lit.int .i64 a).wf = true) (hb : (Lit.int .i64 b).wf = true) {tk tb : TypeId} (hK : Bk w 1 KC tk) (hB : Bk w 0 HB8 tb) :
  Calls Tryz.prog 44 #[.agg (PC a b s).toArray, .agg (bl.map B).toArray] w fun e w' => e = .returned (.bool (fitB a b s bl)) ∧ Fr0 w w' := by
 cases h : isH a b s with
 | true => rw [show fitB a b s bl = allZ bl by simp [fitB, h]];exact fits_hole a b s bl w hs hbl ha hb h
 | false => rw [show fitB a b s bl = decide (sumOf bl = s) by simp [fitB, h]];exact fits_no a b s bl w hs hbl ha hb h hK hB
theorem rfits_calls (a b : Int) (s bl : List UInt8) (w : World) (hs : s.length = 32) (hbl : bl.length = 128) (ha : (Lit.int .i64 a).wf = true) (hb : (Lit.int .i64 b).wf = true) :
  Calls Tryz.prog 51 #[.agg (PC a b s).toArray, .agg (bl.map B).toArray] w fun e w' => e = .returned (.bool (fitB a b s bl)) ∧ Fr0 w w' := by
 cases h : isH a b s with
 | true => rw [show fitB a b s bl = allZ bl by simp [fitB, h]];exact rfits_hole a b s bl w hs hbl ha hb h
 | false =>
  rw [show fitB a b s bl = decide (s = sumOf bl) by simp only [fitB, h];rw [Bool.eq_iff_iff];simp [eq_comm]]
  exact rfits_no a b s bl w hs hbl ha hb h

end Go.Proofs.YtmkmpfnadcmcoaaGreatDoor.PtrFitB
