/- A pointer laid at a place, as the reference does it: the walk of lazaretref05.Put. -/
import Derived.Test.YtfjkbabeceaelaaPtrPut
import Derived.Test.YtfjkbabeceaelaaRefWord
import Derived.Test.YtfjkbabeceaelaaPtrRRight
set_option linter.unusedVariables false
set_option linter.unusedSimpArgs false
namespace Go.Proofs.Ytfjkbabeceaelaa.PtrRPut
open Go Go.RowKit Go.Proofs.Ytfjkbabeceaelaa.K Go.Proofs.Ytfjkbabeceaelaa.EqKit Go.Proofs.Ytfjkbabeceaelaa.PtrKit Go.Proofs.Ytfjkbabeceaelaa.ArrKit Go.Proofs.Ytfjkbabeceaelaa.HeldKit Go.Proofs.Ytfjkbabeceaelaa.PtrAsk Go.Proofs.Ytfjkbabeceaelaa.PtrRRight Go.Proofs.Ytfjkbabeceaelaa.ShaStep Go.Proofs.Ytfjkbabeceaelaa.PtrOf Go.Proofs.Ytfjkbabeceaelaa.WordPut Go.Proofs.Ytfjkbabeceaelaa.WordTake Go.Proofs.Ytfjkbabeceaelaa.PtrPut

set_option maxHeartbeats 2000000 in
set_option maxRecDepth 100000 in
theorem rput_wrong (A0 : Option Addr) (n c : Nat) (p : Int) (a b : Int) (s : List UInt8) (w : World) (hn : n ≤ 140737488351232) (hs : s.length = 32) (ha : (Lit.int .i64 a).wf = true) (hb : (Lit.int .i64 b).wf = true) (k : rightB a b s = false)  :
    Calls Try.prog 30 #[.slice A0 n c, .int .i64 p, .agg (PC a b s).toArray] w fun e w' => e = .returned (.int .i64 1) ∧ Fr0 w w' := by
  have HRI : Hid (∀ W : World, Calls Try.prog 35 #[.agg (PC a b s).toArray] W fun e w' => e = .returned (.bool false) ∧ Fr0 W w') := Lib.hid (fun W => by
    have := rright_calls a b s W hs ha hb
    rw [k] at this
    exact this)
  have HIP : Hid ((Try.prog.info? 26).map (·.size) = some (PC a b s).toArray.size) := Lib.hid (by rw [info_p, List.size_toArray, PC_length, hs])
  generalize (PC a b s).toArray = Y at *
  have HF : Hid (Fr0 w (w.alloc (.cells Y 26))) := Lib.hid (Fr.alloc (Fr.refl _ _) _)
  have HY : Hid (Bk (w.alloc (.cells Y 26)) w.heap.size Y 26) := Lib.hid (Bk.new w _)
  clear hs ha hb k
  go_enter Try.func30, Try.ntmps30
  go_wp2_with (first | (refine wpList_load_row_g (by rfl) 26 _ rfl w.heap.size rfl 26 Y (0, 0) _ HY.out Try.underlying26 rfl HIP.out ?_) | (go_at_call 35; (with_reducible refine (HRI.out _).mono ?_); rintro e w2 ⟨rfl, hf2⟩; have HF2 := Lib.hid (HF.out.then0 hf2); clear hf2))
  go_ret
  exact ⟨rfl, HF2.out⟩

set_option maxHeartbeats 2000000 in
set_option maxRecDepth 100000 in
theorem rput_neg (A0 : Option Addr) (n c : Nat) (p : Int) (a b : Int) (s : List UInt8) (w : World) (hn : n ≤ 140737488351232) (hs : s.length = 32) (ha : (Lit.int .i64 a).wf = true) (hb : (Lit.int .i64 b).wf = true) (k : rightB a b s = true) (h : p < 0) :
    Calls Try.prog 30 #[.slice A0 n c, .int .i64 p, .agg (PC a b s).toArray] w fun e w' => e = .returned (.int .i64 1) ∧ Fr0 w w' := by
  have c0 : decide (p < 0) = true := decide_eq_true h
  have HRI : Hid (∀ W : World, Calls Try.prog 35 #[.agg (PC a b s).toArray] W fun e w' => e = .returned (.bool true) ∧ Fr0 W w') := Lib.hid (fun W => by
    have := rright_calls a b s W hs ha hb
    rw [k] at this
    exact this)
  have HIP : Hid ((Try.prog.info? 26).map (·.size) = some (PC a b s).toArray.size) := Lib.hid (by rw [info_p, List.size_toArray, PC_length, hs])
  generalize (PC a b s).toArray = Y at *
  have HF : Hid (Fr0 w (w.alloc (.cells Y 26))) := Lib.hid (Fr.alloc (Fr.refl _ _) _)
  have HY : Hid (Bk (w.alloc (.cells Y 26)) w.heap.size Y 26) := Lib.hid (Bk.new w _)
  clear hs ha hb k
  go_enter Try.func30, Try.ntmps30
  go_wp2_with (first | (refine wpList_load_row_g (by rfl) 26 _ rfl w.heap.size rfl 26 Y (0, 0) _ HY.out Try.underlying26 rfl HIP.out ?_) | (go_at_call 35; (with_reducible refine (HRI.out _).mono ?_); rintro e w2 ⟨rfl, hf2⟩; have HF2 := Lib.hid (HF.out.then0 hf2); clear hf2))
  go_ret
  exact ⟨rfl, HF2.out⟩

set_option maxHeartbeats 2000000 in
set_option maxRecDepth 100000 in
theorem rput_far (A0 : Option Addr) (n c : Nat) (p : Int) (a b : Int) (s : List UInt8) (w : World) (hn : n ≤ 140737488351232) (hs : s.length = 32) (ha : (Lit.int .i64 a).wf = true) (hb : (Lit.int .i64 b).wf = true) (k : rightB a b s = true) (h : 0 ≤ p) (h1 : (n : Int) < p) :
    Calls Try.prog 30 #[.slice A0 n c, .int .i64 p, .agg (PC a b s).toArray] w fun e w' => e = .returned (.int .i64 1) ∧ Fr0 w w' := by
  have c0 : decide (p < 0) = false := decide_eq_false (by omega)
  have c1 : decide ((n : Int) < p) = true := decide_eq_true h1
  have HRI : Hid (∀ W : World, Calls Try.prog 35 #[.agg (PC a b s).toArray] W fun e w' => e = .returned (.bool true) ∧ Fr0 W w') := Lib.hid (fun W => by
    have := rright_calls a b s W hs ha hb
    rw [k] at this
    exact this)
  have HIP : Hid ((Try.prog.info? 26).map (·.size) = some (PC a b s).toArray.size) := Lib.hid (by rw [info_p, List.size_toArray, PC_length, hs])
  generalize (PC a b s).toArray = Y at *
  have HF : Hid (Fr0 w (w.alloc (.cells Y 26))) := Lib.hid (Fr.alloc (Fr.refl _ _) _)
  have HY : Hid (Bk (w.alloc (.cells Y 26)) w.heap.size Y 26) := Lib.hid (Bk.new w _)
  clear hs ha hb k
  go_enter Try.func30, Try.ntmps30
  go_wp2_with (first | (refine wpList_load_row_g (by rfl) 26 _ rfl w.heap.size rfl 26 Y (0, 0) _ HY.out Try.underlying26 rfl HIP.out ?_) | (go_at_call 35; (with_reducible refine (HRI.out _).mono ?_); rintro e w2 ⟨rfl, hf2⟩; have HF2 := Lib.hid (HF.out.then0 hf2); clear hf2))
  go_ret
  exact ⟨rfl, HF2.out⟩

set_option maxHeartbeats 2000000 in
set_option maxRecDepth 100000 in
theorem rput_big (A0 : Option Addr) (n c : Nat) (p : Int) (a b : Int) (s : List UInt8) (w : World) (hn : n ≤ 140737488351232) (hs : s.length = 32) (ha : (Lit.int .i64 a).wf = true) (hb : (Lit.int .i64 b).wf = true) (k : rightB a b s = true) (h : 0 ≤ p) (h1 : p ≤ n) (h2 : (n : Int) - p < 40) :
    Calls Try.prog 30 #[.slice A0 n c, .int .i64 p, .agg (PC a b s).toArray] w fun e w' => e = .returned (.int .i64 1) ∧ Fr0 w w' := by
  have c0 : decide (p < 0) = false := decide_eq_false (by omega)
  have c1 : decide ((n : Int) < p) = false := decide_eq_false (by omega)
  have c2 : decide ((n : Int) - p < 40) = true := decide_eq_true h2
  have HRI : Hid (∀ W : World, Calls Try.prog 35 #[.agg (PC a b s).toArray] W fun e w' => e = .returned (.bool true) ∧ Fr0 W w') := Lib.hid (fun W => by
    have := rright_calls a b s W hs ha hb
    rw [k] at this
    exact this)
  have HIP : Hid ((Try.prog.info? 26).map (·.size) = some (PC a b s).toArray.size) := Lib.hid (by rw [info_p, List.size_toArray, PC_length, hs])
  generalize (PC a b s).toArray = Y at *
  have HF : Hid (Fr0 w (w.alloc (.cells Y 26))) := Lib.hid (Fr.alloc (Fr.refl _ _) _)
  have HY : Hid (Bk (w.alloc (.cells Y 26)) w.heap.size Y 26) := Lib.hid (Bk.new w _)
  clear hs ha hb k
  go_enter Try.func30, Try.ntmps30
  go_wp2_with (first | (refine wpList_load_row_g (by rfl) 26 _ rfl w.heap.size rfl 26 Y (0, 0) _ HY.out Try.underlying26 rfl HIP.out ?_) | (go_at_call 35; (with_reducible refine (HRI.out _).mono ?_); rintro e w2 ⟨rfl, hf2⟩; have HF2 := Lib.hid (HF.out.then0 hf2); clear hf2))
  go_ret
  exact ⟨rfl, HF2.out⟩

theorem rput_no (A0 : Option Addr) (n c : Nat) (p : Int) (a b : Int) (s : List UInt8) (w : World) (hn : n ≤ 140737488351232) (hs : s.length = 32) (ha : (Lit.int .i64 a).wf = true) (hb : (Lit.int .i64 b).wf = true) (h : rightB a b s = false ∨ NoRoom n p 40) :
    Calls Try.prog 30 #[.slice A0 n c, .int .i64 p, .agg (PC a b s).toArray] w fun e w' => e = .returned (.int .i64 1) ∧ Fr0 w w' := by
  cases k : rightB a b s with
  | false => exact rput_wrong A0 n c p a b s w hn hs ha hb k
  | true =>
    have hr : NoRoom n p 40 := h.resolve_left (by rw [k]; decide)
    by_cases h1 : p < 0
    · exact rput_neg A0 n c p a b s w hn hs ha hb k h1
    by_cases h2 : (n : Int) < p
    · exact rput_far A0 n c p a b s w hn hs ha hb k (by omega) h2
    · exact rput_big A0 n c p a b s w hn hs ha hb k (by omega) (by omega) (by rcases hr with h | h | h <;> omega)

set_option maxHeartbeats 2000000 in
set_option maxRecDepth 100000 in
theorem rput_nn (g o n c p : Nat) (s : List UInt8) (cs : Array Value) (t : TypeId) (w : World) (hs : s.length = 32) (hg : Bk w g cs t) (hcs : o + n ≤ cs.size) (hc : n ≤ c) (hcm : c ≤ 9223372036854775807) (hn : n ≤ 140737488351232) (hr : p + 40 ≤ n) (k : rightB (-1) (-1) s = true) :
    Calls Try.prog 30 #[.slice (some ⟨g, o, none⟩) n c, .int .i64 p, .agg (PC (-1) (-1) s).toArray] w fun e w' => e = .returned (.int .i64 0) ∧ Bk w' g (lay (lay (lay cs (o + p) ((le 4294967295 4).map B)) (o + p + 4) ((le 4294967295 4).map B)) (o + p + 8) (s.map B)) t ∧ Fr (· = g) w w' := by
  have d0 : decide ((p : Int) < 0) = false := decide_eq_false (by omega)
  have d1 : decide ((n : Int) < p) = false := decide_eq_false (by omega)
  have d2 : decide ((n : Int) - p < 40) = false := decide_eq_false (by omega)
  have HRI : Hid (∀ W : World, Calls Try.prog 35 #[.agg (PC (-1) (-1) s).toArray] W fun e w' => e = .returned (.bool true) ∧ Fr0 W w') := Lib.hid (fun W => by
    have := rright_calls (-1) (-1) s W hs (by decide) (by decide)
    rw [k] at this
    exact this)
  have HIP : Hid ((Try.prog.info? 26).map (·.size) = some (PC (-1) (-1) s).toArray.size) := Lib.hid (by rw [info_p, List.size_toArray, PC_length, hs])
  have H0 : Hid ((PC (-1) (-1) s).toArray[0]? = some (.int .i64 (-1))) := Lib.hid rfl
  have H1 : Hid ((PC (-1) (-1) s).toArray[1]? = some (.int .i64 (-1))) := Lib.hid rfl
  have HSC : Hid (∀ j v, (s.map B)[j]? = some v → (PC (-1) (-1) s).toArray[2 + j]? = some v) := Lib.hid (fun j v h => by rw [List.getElem?_toArray, PC, Nat.add_comm 2 j]; exact h)
  have HSL := Lib.hid hs
  have HPW : Hid (∀ (W : World) (cs' : Array Value), Bk W g cs' t → cs'.size = cs.size → Calls Try.prog 29 #[.slice (some ⟨g, o, none⟩) n c, .int .i64 p, .int .i64 4, .int .i64 4294967295] W (PutPost g cs' t (o + p) (le 4294967295 4) W 0)) := Lib.hid (fun W cs' h1 h2 => RefWord.put_ok g o n c p 4 4294967295 cs' t W h1 (by omega) (by omega) (by omega) (by omega) (by omega) (by omega) (by refine ⟨by omega, by omega, by omega, fun _ => ?_⟩; (first | decide | (show ((4294967295 : Nat) : Int) / 2 ^ 32 ≤ 0; omega))))
  have HPV : Hid (∀ (W : World) (cs' : Array Value), Bk W g cs' t → cs'.size = cs.size → Calls Try.prog 29 #[.slice (some ⟨g, o, none⟩) n c, .int .i64 ((p : Int) + 4), .int .i64 4, .int .i64 4294967295] W (PutPost g cs' t (o + p + 4) (le 4294967295 4) W 0)) := Lib.hid (fun W cs' h1 h2 => by
    have := RefWord.put_ok g o n c (p + 4) 4 4294967295 cs' t W h1 (by omega) (by omega) (by omega) (by omega) (by omega) (by omega) (by refine ⟨by omega, by omega, by omega, fun _ => ?_⟩; (first | decide | (show ((4294967295 : Nat) : Int) / 2 ^ 32 ≤ 0; omega)))
    rw [← Nat.add_assoc] at this
    simpa using this)
  generalize (PC (-1) (-1) s).toArray = Y at *
  have HF : Hid (Fr0 w (w.alloc (.cells Y 26))) := Lib.hid (Fr.alloc (Fr.refl _ _) _)
  have HY : Hid (Bk (w.alloc (.cells Y 26)) w.heap.size Y 26) := Lib.hid (Bk.new w _)
  have HG : Hid (Bk (w.alloc (.cells Y 26)) g cs t) := Lib.hid (Bk.alloc hg _)
  have HGS := Lib.hid hcs
  have hg0 := Lib.hid hg
  clear hs hg k hcs
  go_enter Try.func30, Try.ntmps30
  go_wp2_with (first | (refine wpList_load_row_g (by rfl) 26 _ rfl w.heap.size rfl 26 Y (0, 0) _ HY.out Try.underlying26 rfl HIP.out ?_) | (go_at_call 35; (with_reducible refine (HRI.out _).mono ?_); rintro e w2 ⟨rfl, hf2⟩; have HF2 := Lib.hid (HF.out.then0 hf2); have HY2 := Lib.hid (hf2.keep HY.out (fun h => h)); have HG2 := Lib.hid (hf2.keep HG.out (fun h => h)); have q0 := (Bk.cell HY2.out 0).trans H0.out; have q1 := (Bk.cell HY2.out 1).trans H1.out; clear hf2))
  have hne := Bk.lt hg0.out
  have hgH : g < w2.heap.size := Bk.lt HG2.out
  have hwH : w.heap.size < w2.heap.size := Bk.lt HY2.out
  have HL3 : Hid (Bk (w2.alloc (.cells #[.int .i64 (-1), .int .i64 (-1)] 68)) w2.heap.size #[.int .i64 (-1), .int .i64 (-1)] 68) := Lib.hid (Bk.new _ _)
  have HG3 := Lib.hid (Bk.alloc HG2.out (.cells #[.int .i64 (-1), .int .i64 (-1)] 68))
  have HY3 := Lib.hid (Bk.alloc HY2.out (.cells #[.int .i64 (-1), .int .i64 (-1)] 68))
  have HF3 := Lib.hid (Fr.alloc HF2.out (.cells #[.int .i64 (-1), .int .i64 (-1)] 68))
  clear q0 q1
  generalize w2.alloc (.cells #[.int .i64 (-1), .int .i64 (-1)] 68) = w3 at *
  generalize w2.heap.size = H at *
  have l0 : w3.cell? ⟨H, 0, none⟩ = some (.int .i64 (-1)) := Bk.cell HL3.out 0
  refine wp_loop_rounds 3 ?_
  rw [rounds_succ]
  go_wp2_with (first | (go_at_call 29; (with_reducible refine (HPW.out _ cs HG3.out rfl).mono ?_); rintro e w4 ⟨rfl, hb4, hf4⟩; have HB4 := Lib.hid hb4; have HF4 := Lib.hid ((HF3.out.weaken (fun _ _ h => h.elim)).trans hf4); have HY4 := Lib.hid (hf4.keep HY3.out (Nat.ne_of_gt hne)); have HL4 := Lib.hid (hf4.keep HL3.out (Nat.ne_of_gt hgH)); clear hf4 hb4; have l1 : w4.cell? ⟨H, 1, none⟩ = some (.int .i64 (-1)) := Bk.cell HL4.out 1))
  rw [rounds_succ]
  go_wp2_with (first | (go_at_call 29; (with_reducible refine (HPV.out _ _ HB4.out (by simp)).mono ?_); rintro e w5 ⟨rfl, hb5, hf5⟩; have HB5 := Lib.hid hb5; have HF5 := Lib.hid (HF4.out.trans hf5); have HY5 := Lib.hid (hf5.keep HY4.out (Nat.ne_of_gt hne)); clear hf5 hb5))
  rw [rounds_succ]
  clear l0 l1
  go_wp2
  have hz : (lay (lay cs (o + p) ((le 4294967295 4).map B)) (o + p + 4) ((le 4294967295 4).map B)).size = cs.size := by simp
  generalize hbse : lay (lay cs (o + p) ((le 4294967295 4).map B)) (o + p + 4) ((le 4294967295 4).map B) = bs at *
  have HBS := Lib.hid hbse
  clear hbse
  have hbs : o + n ≤ bs.size := by rw [hz]; exact HGS.out
  have hbs' : o + p + 40 ≤ bs.size := by omega
  clear hz hgH hwH
  go_loopw [10] (fun u wr => ∃ k : Nat, k ≤ 32 ∧ u = .int .i64 k ∧ Bk wr g (lay bs (o + p + 8) ((s.map B).take k)) t ∧ Bk wr w.heap.size Y 26 ∧ Fr (· = g) w wr) (fun u _ => 32 - (intOf u).toNat)
  case atStart => exact ⟨0, by omega, rfl, HB5.out, HY5.out, HF5.out⟩
  case round =>
    obtain ⟨k, hk, rfl, hbk, hyk, hfr⟩ := hrel
    have HBK := Lib.hid hbk
    have HYK := Lib.hid hyk
    have HFR := Lib.hid hfr
    have hlt0 : o + p + 8 + k < bs.size ∨ k = 32 := by omega
    clear hbk hyk hfr
    by_cases hlt : k < 32
    · obtain ⟨v0, hv0⟩ : ∃ v0, wr.cell? ⟨g, o + (p + 8 + k), none⟩ = some v0 := ⟨_, (HBK.out.cell _).trans (Array.getElem?_eq_getElem (by simp; omega))⟩
      have hfz := HBK.out.free (o + (p + 8 + k))
      obtain ⟨v, hv⟩ : ∃ v, (s.map B)[k]? = some (B v) := ⟨s[k]'(by rw [HSL.out]; exact hlt), by rw [List.getElem?_map, List.getElem?_eq_getElem (by rw [HSL.out]; exact hlt)]; rfl⟩
      have hcs : wr.cell? ⟨w.heap.size, 2 + k, none⟩ = some (B v) := (HYK.out.cell _).trans (HSC.out k _ hv)
      have HV := Lib.hid hv
      have hpk : (p : Int) + 8 + k < n := by omega
      have hvw : (0 : Int) ≤ (v.toNat : Int) := by omega
      have hvx : (v.toNat : Int) < 256 := by have := v.toNat_lt; omega
      simp only [B] at hcs
      have c9 : decide ((k : Int) < 32) = true := decide_eq_true (by omega)
      have HLT := Lib.hid hlt
      clear hv hlt0 hbs hbs' hk
      go_wp2
      have hkl : k < (s.map B).length := by have := HLT.out; rw [List.length_map, HSL.out]; exact this
      have hgl : (s.map B)[k] = .int .u8 (v.toNat : Int) := Option.some.inj ((List.getElem?_eq_getElem hkl).symm.trans HV.out)
      refine ⟨⟨k + 1, by have := HLT.out; omega, by go_num, ?_, Bk.setOther HYK.out _ _ (Nat.ne_of_gt hne), HFR.out.set _ _ (.inr rfl)⟩, by have := HLT.out; simp [intOf]; omega⟩
      rw [lay_take hkl, hgl, show o + p + 8 + k = o + (p + 8 + k) by omega]
      exact HBK.out.set _ _
    · have c9 : decide ((k : Int) < 32) = false := decide_eq_false (by omega)
      have HFIN : Hid (Bk wr g (lay bs (o + p + 8) (s.map B)) t) := Lib.hid (by
        have := HBK.out
        have e : (s.map B).take k = s.map B := List.take_of_length_le (by rw [List.length_map, HSL.out]; omega)
        rw [e] at this
        exact this)
      clear hlt0 hlt hk HBK HYK
      go_wp2
      go_ret
      refine ⟨rfl, ?_, HFR.out⟩
      rw [HBS.out]
      exact HFIN.out

set_option maxHeartbeats 2000000 in
set_option maxRecDepth 100000 in
theorem rput_sn (g o n c p : Nat) (an : Nat) (han : an ≤ 4095) (s : List UInt8) (cs : Array Value) (t : TypeId) (w : World) (hs : s.length = 32) (hg : Bk w g cs t) (hcs : o + n ≤ cs.size) (hc : n ≤ c) (hcm : c ≤ 9223372036854775807) (hn : n ≤ 140737488351232) (hr : p + 40 ≤ n) (k : rightB ((an : Int)) (-1) s = true) :
    Calls Try.prog 30 #[.slice (some ⟨g, o, none⟩) n c, .int .i64 p, .agg (PC ((an : Int)) (-1) s).toArray] w fun e w' => e = .returned (.int .i64 0) ∧ Bk w' g (lay (lay (lay cs (o + p) ((le an 4).map B)) (o + p + 4) ((le 4294967295 4).map B)) (o + p + 8) (s.map B)) t ∧ Fr (· = g) w w' := by
  have can : ((an : Int) == -1) = false := by rw [beq_eq_false_iff_ne]; omega
  have d0 : decide ((p : Int) < 0) = false := decide_eq_false (by omega)
  have d1 : decide ((n : Int) < p) = false := decide_eq_false (by omega)
  have d2 : decide ((n : Int) - p < 40) = false := decide_eq_false (by omega)
  have HRI : Hid (∀ W : World, Calls Try.prog 35 #[.agg (PC ((an : Int)) (-1) s).toArray] W fun e w' => e = .returned (.bool true) ∧ Fr0 W w') := Lib.hid (fun W => by
    have := rright_calls ((an : Int)) (-1) s W hs (by simp [Lit.wf, IntKind.min, IntKind.max, IntKind.signed, IntKind.bits]; omega) (by decide)
    rw [k] at this
    exact this)
  have HIP : Hid ((Try.prog.info? 26).map (·.size) = some (PC ((an : Int)) (-1) s).toArray.size) := Lib.hid (by rw [info_p, List.size_toArray, PC_length, hs])
  have H0 : Hid ((PC ((an : Int)) (-1) s).toArray[0]? = some (.int .i64 ((an : Int)))) := Lib.hid rfl
  have H1 : Hid ((PC ((an : Int)) (-1) s).toArray[1]? = some (.int .i64 (-1))) := Lib.hid rfl
  have HSC : Hid (∀ j v, (s.map B)[j]? = some v → (PC ((an : Int)) (-1) s).toArray[2 + j]? = some v) := Lib.hid (fun j v h => by rw [List.getElem?_toArray, PC, Nat.add_comm 2 j]; exact h)
  have HSL := Lib.hid hs
  have HPW : Hid (∀ (W : World) (cs' : Array Value), Bk W g cs' t → cs'.size = cs.size → Calls Try.prog 29 #[.slice (some ⟨g, o, none⟩) n c, .int .i64 p, .int .i64 4, .int .i64 (an : Int)] W (PutPost g cs' t (o + p) (le an 4) W 0)) := Lib.hid (fun W cs' h1 h2 => RefWord.put_ok g o n c p 4 an cs' t W h1 (by omega) (by omega) (by omega) (by omega) (by omega) (by omega) (by refine ⟨by omega, by omega, by omega, fun _ => ?_⟩; (first | decide | (show ((an : Nat) : Int) / 2 ^ 32 ≤ 0; omega))))
  have HPV : Hid (∀ (W : World) (cs' : Array Value), Bk W g cs' t → cs'.size = cs.size → Calls Try.prog 29 #[.slice (some ⟨g, o, none⟩) n c, .int .i64 ((p : Int) + 4), .int .i64 4, .int .i64 4294967295] W (PutPost g cs' t (o + p + 4) (le 4294967295 4) W 0)) := Lib.hid (fun W cs' h1 h2 => by
    have := RefWord.put_ok g o n c (p + 4) 4 4294967295 cs' t W h1 (by omega) (by omega) (by omega) (by omega) (by omega) (by omega) (by refine ⟨by omega, by omega, by omega, fun _ => ?_⟩; (first | decide | (show ((4294967295 : Nat) : Int) / 2 ^ 32 ≤ 0; omega)))
    rw [← Nat.add_assoc] at this
    simpa using this)
  generalize (PC ((an : Int)) (-1) s).toArray = Y at *
  have HF : Hid (Fr0 w (w.alloc (.cells Y 26))) := Lib.hid (Fr.alloc (Fr.refl _ _) _)
  have HY : Hid (Bk (w.alloc (.cells Y 26)) w.heap.size Y 26) := Lib.hid (Bk.new w _)
  have HG : Hid (Bk (w.alloc (.cells Y 26)) g cs t) := Lib.hid (Bk.alloc hg _)
  have HGS := Lib.hid hcs
  have hg0 := Lib.hid hg
  clear hs hg k hcs
  go_enter Try.func30, Try.ntmps30
  go_wp2_with (first | (refine wpList_load_row_g (by rfl) 26 _ rfl w.heap.size rfl 26 Y (0, 0) _ HY.out Try.underlying26 rfl HIP.out ?_) | (go_at_call 35; (with_reducible refine (HRI.out _).mono ?_); rintro e w2 ⟨rfl, hf2⟩; have HF2 := Lib.hid (HF.out.then0 hf2); have HY2 := Lib.hid (hf2.keep HY.out (fun h => h)); have HG2 := Lib.hid (hf2.keep HG.out (fun h => h)); have q0 := (Bk.cell HY2.out 0).trans H0.out; have q1 := (Bk.cell HY2.out 1).trans H1.out; clear hf2))
  have hne := Bk.lt hg0.out
  have hgH : g < w2.heap.size := Bk.lt HG2.out
  have hwH : w.heap.size < w2.heap.size := Bk.lt HY2.out
  have HL3 : Hid (Bk (w2.alloc (.cells #[.int .i64 ((an : Int)), .int .i64 (-1)] 68)) w2.heap.size #[.int .i64 ((an : Int)), .int .i64 (-1)] 68) := Lib.hid (Bk.new _ _)
  have HG3 := Lib.hid (Bk.alloc HG2.out (.cells #[.int .i64 ((an : Int)), .int .i64 (-1)] 68))
  have HY3 := Lib.hid (Bk.alloc HY2.out (.cells #[.int .i64 ((an : Int)), .int .i64 (-1)] 68))
  have HF3 := Lib.hid (Fr.alloc HF2.out (.cells #[.int .i64 ((an : Int)), .int .i64 (-1)] 68))
  clear q0 q1
  generalize w2.alloc (.cells #[.int .i64 ((an : Int)), .int .i64 (-1)] 68) = w3 at *
  generalize w2.heap.size = H at *
  have l0 : w3.cell? ⟨H, 0, none⟩ = some (.int .i64 ((an : Int))) := Bk.cell HL3.out 0
  refine wp_loop_rounds 3 ?_
  rw [rounds_succ]
  go_wp2_with (first | (go_at_call 29; (with_reducible refine (HPW.out _ cs HG3.out rfl).mono ?_); rintro e w4 ⟨rfl, hb4, hf4⟩; have HB4 := Lib.hid hb4; have HF4 := Lib.hid ((HF3.out.weaken (fun _ _ h => h.elim)).trans hf4); have HY4 := Lib.hid (hf4.keep HY3.out (Nat.ne_of_gt hne)); have HL4 := Lib.hid (hf4.keep HL3.out (Nat.ne_of_gt hgH)); clear hf4 hb4; have l1 : w4.cell? ⟨H, 1, none⟩ = some (.int .i64 (-1)) := Bk.cell HL4.out 1))
  rw [rounds_succ]
  go_wp2_with (first | (go_at_call 29; (with_reducible refine (HPV.out _ _ HB4.out (by simp)).mono ?_); rintro e w5 ⟨rfl, hb5, hf5⟩; have HB5 := Lib.hid hb5; have HF5 := Lib.hid (HF4.out.trans hf5); have HY5 := Lib.hid (hf5.keep HY4.out (Nat.ne_of_gt hne)); clear hf5 hb5))
  rw [rounds_succ]
  clear l0 l1
  go_wp2
  have hz : (lay (lay cs (o + p) ((le an 4).map B)) (o + p + 4) ((le 4294967295 4).map B)).size = cs.size := by simp
  generalize hbse : lay (lay cs (o + p) ((le an 4).map B)) (o + p + 4) ((le 4294967295 4).map B) = bs at *
  have HBS := Lib.hid hbse
  clear hbse
  have hbs : o + n ≤ bs.size := by rw [hz]; exact HGS.out
  have hbs' : o + p + 40 ≤ bs.size := by omega
  clear hz hgH hwH
  go_loopw [10] (fun u wr => ∃ k : Nat, k ≤ 32 ∧ u = .int .i64 k ∧ Bk wr g (lay bs (o + p + 8) ((s.map B).take k)) t ∧ Bk wr w.heap.size Y 26 ∧ Fr (· = g) w wr) (fun u _ => 32 - (intOf u).toNat)
  case atStart => exact ⟨0, by omega, rfl, HB5.out, HY5.out, HF5.out⟩
  case round =>
    obtain ⟨k, hk, rfl, hbk, hyk, hfr⟩ := hrel
    have HBK := Lib.hid hbk
    have HYK := Lib.hid hyk
    have HFR := Lib.hid hfr
    have hlt0 : o + p + 8 + k < bs.size ∨ k = 32 := by omega
    clear hbk hyk hfr
    by_cases hlt : k < 32
    · obtain ⟨v0, hv0⟩ : ∃ v0, wr.cell? ⟨g, o + (p + 8 + k), none⟩ = some v0 := ⟨_, (HBK.out.cell _).trans (Array.getElem?_eq_getElem (by simp; omega))⟩
      have hfz := HBK.out.free (o + (p + 8 + k))
      obtain ⟨v, hv⟩ : ∃ v, (s.map B)[k]? = some (B v) := ⟨s[k]'(by rw [HSL.out]; exact hlt), by rw [List.getElem?_map, List.getElem?_eq_getElem (by rw [HSL.out]; exact hlt)]; rfl⟩
      have hcs : wr.cell? ⟨w.heap.size, 2 + k, none⟩ = some (B v) := (HYK.out.cell _).trans (HSC.out k _ hv)
      have HV := Lib.hid hv
      have hpk : (p : Int) + 8 + k < n := by omega
      have hvw : (0 : Int) ≤ (v.toNat : Int) := by omega
      have hvx : (v.toNat : Int) < 256 := by have := v.toNat_lt; omega
      simp only [B] at hcs
      have c9 : decide ((k : Int) < 32) = true := decide_eq_true (by omega)
      have HLT := Lib.hid hlt
      clear hv hlt0 hbs hbs' hk
      go_wp2
      have hkl : k < (s.map B).length := by have := HLT.out; rw [List.length_map, HSL.out]; exact this
      have hgl : (s.map B)[k] = .int .u8 (v.toNat : Int) := Option.some.inj ((List.getElem?_eq_getElem hkl).symm.trans HV.out)
      refine ⟨⟨k + 1, by have := HLT.out; omega, by go_num, ?_, Bk.setOther HYK.out _ _ (Nat.ne_of_gt hne), HFR.out.set _ _ (.inr rfl)⟩, by have := HLT.out; simp [intOf]; omega⟩
      rw [lay_take hkl, hgl, show o + p + 8 + k = o + (p + 8 + k) by omega]
      exact HBK.out.set _ _
    · have c9 : decide ((k : Int) < 32) = false := decide_eq_false (by omega)
      have HFIN : Hid (Bk wr g (lay bs (o + p + 8) (s.map B)) t) := Lib.hid (by
        have := HBK.out
        have e : (s.map B).take k = s.map B := List.take_of_length_le (by rw [List.length_map, HSL.out]; omega)
        rw [e] at this
        exact this)
      clear hlt0 hlt hk HBK HYK
      go_wp2
      go_ret
      refine ⟨rfl, ?_, HFR.out⟩
      rw [HBS.out]
      exact HFIN.out

set_option maxHeartbeats 2000000 in
set_option maxRecDepth 100000 in
theorem rput_ss (g o n c p : Nat) (an : Nat) (han : an ≤ 4095) (bn : Nat) (hbn : bn ≤ 4095) (s : List UInt8) (cs : Array Value) (t : TypeId) (w : World) (hs : s.length = 32) (hg : Bk w g cs t) (hcs : o + n ≤ cs.size) (hc : n ≤ c) (hcm : c ≤ 9223372036854775807) (hn : n ≤ 140737488351232) (hr : p + 40 ≤ n) (k : rightB ((an : Int)) ((bn : Int)) s = true) :
    Calls Try.prog 30 #[.slice (some ⟨g, o, none⟩) n c, .int .i64 p, .agg (PC ((an : Int)) ((bn : Int)) s).toArray] w fun e w' => e = .returned (.int .i64 0) ∧ Bk w' g (lay (lay (lay cs (o + p) ((le an 4).map B)) (o + p + 4) ((le bn 4).map B)) (o + p + 8) (s.map B)) t ∧ Fr (· = g) w w' := by
  have can : ((an : Int) == -1) = false := by rw [beq_eq_false_iff_ne]; omega
  have cbn : ((bn : Int) == -1) = false := by rw [beq_eq_false_iff_ne]; omega
  have d0 : decide ((p : Int) < 0) = false := decide_eq_false (by omega)
  have d1 : decide ((n : Int) < p) = false := decide_eq_false (by omega)
  have d2 : decide ((n : Int) - p < 40) = false := decide_eq_false (by omega)
  have HRI : Hid (∀ W : World, Calls Try.prog 35 #[.agg (PC ((an : Int)) ((bn : Int)) s).toArray] W fun e w' => e = .returned (.bool true) ∧ Fr0 W w') := Lib.hid (fun W => by
    have := rright_calls ((an : Int)) ((bn : Int)) s W hs (by simp [Lit.wf, IntKind.min, IntKind.max, IntKind.signed, IntKind.bits]; omega) (by simp [Lit.wf, IntKind.min, IntKind.max, IntKind.signed, IntKind.bits]; omega)
    rw [k] at this
    exact this)
  have HIP : Hid ((Try.prog.info? 26).map (·.size) = some (PC ((an : Int)) ((bn : Int)) s).toArray.size) := Lib.hid (by rw [info_p, List.size_toArray, PC_length, hs])
  have H0 : Hid ((PC ((an : Int)) ((bn : Int)) s).toArray[0]? = some (.int .i64 ((an : Int)))) := Lib.hid rfl
  have H1 : Hid ((PC ((an : Int)) ((bn : Int)) s).toArray[1]? = some (.int .i64 ((bn : Int)))) := Lib.hid rfl
  have HSC : Hid (∀ j v, (s.map B)[j]? = some v → (PC ((an : Int)) ((bn : Int)) s).toArray[2 + j]? = some v) := Lib.hid (fun j v h => by rw [List.getElem?_toArray, PC, Nat.add_comm 2 j]; exact h)
  have HSL := Lib.hid hs
  have HPW : Hid (∀ (W : World) (cs' : Array Value), Bk W g cs' t → cs'.size = cs.size → Calls Try.prog 29 #[.slice (some ⟨g, o, none⟩) n c, .int .i64 p, .int .i64 4, .int .i64 (an : Int)] W (PutPost g cs' t (o + p) (le an 4) W 0)) := Lib.hid (fun W cs' h1 h2 => RefWord.put_ok g o n c p 4 an cs' t W h1 (by omega) (by omega) (by omega) (by omega) (by omega) (by omega) (by refine ⟨by omega, by omega, by omega, fun _ => ?_⟩; (first | decide | (show ((an : Nat) : Int) / 2 ^ 32 ≤ 0; omega))))
  have HPV : Hid (∀ (W : World) (cs' : Array Value), Bk W g cs' t → cs'.size = cs.size → Calls Try.prog 29 #[.slice (some ⟨g, o, none⟩) n c, .int .i64 ((p : Int) + 4), .int .i64 4, .int .i64 (bn : Int)] W (PutPost g cs' t (o + p + 4) (le bn 4) W 0)) := Lib.hid (fun W cs' h1 h2 => by
    have := RefWord.put_ok g o n c (p + 4) 4 bn cs' t W h1 (by omega) (by omega) (by omega) (by omega) (by omega) (by omega) (by refine ⟨by omega, by omega, by omega, fun _ => ?_⟩; (first | decide | (show ((bn : Nat) : Int) / 2 ^ 32 ≤ 0; omega)))
    rw [← Nat.add_assoc] at this
    simpa using this)
  generalize (PC ((an : Int)) ((bn : Int)) s).toArray = Y at *
  have HF : Hid (Fr0 w (w.alloc (.cells Y 26))) := Lib.hid (Fr.alloc (Fr.refl _ _) _)
  have HY : Hid (Bk (w.alloc (.cells Y 26)) w.heap.size Y 26) := Lib.hid (Bk.new w _)
  have HG : Hid (Bk (w.alloc (.cells Y 26)) g cs t) := Lib.hid (Bk.alloc hg _)
  have HGS := Lib.hid hcs
  have hg0 := Lib.hid hg
  clear hs hg k hcs
  go_enter Try.func30, Try.ntmps30
  go_wp2_with (first | (refine wpList_load_row_g (by rfl) 26 _ rfl w.heap.size rfl 26 Y (0, 0) _ HY.out Try.underlying26 rfl HIP.out ?_) | (go_at_call 35; (with_reducible refine (HRI.out _).mono ?_); rintro e w2 ⟨rfl, hf2⟩; have HF2 := Lib.hid (HF.out.then0 hf2); have HY2 := Lib.hid (hf2.keep HY.out (fun h => h)); have HG2 := Lib.hid (hf2.keep HG.out (fun h => h)); have q0 := (Bk.cell HY2.out 0).trans H0.out; have q1 := (Bk.cell HY2.out 1).trans H1.out; clear hf2))
  have hne := Bk.lt hg0.out
  have hgH : g < w2.heap.size := Bk.lt HG2.out
  have hwH : w.heap.size < w2.heap.size := Bk.lt HY2.out
  have HL3 : Hid (Bk (w2.alloc (.cells #[.int .i64 ((an : Int)), .int .i64 ((bn : Int))] 68)) w2.heap.size #[.int .i64 ((an : Int)), .int .i64 ((bn : Int))] 68) := Lib.hid (Bk.new _ _)
  have HG3 := Lib.hid (Bk.alloc HG2.out (.cells #[.int .i64 ((an : Int)), .int .i64 ((bn : Int))] 68))
  have HY3 := Lib.hid (Bk.alloc HY2.out (.cells #[.int .i64 ((an : Int)), .int .i64 ((bn : Int))] 68))
  have HF3 := Lib.hid (Fr.alloc HF2.out (.cells #[.int .i64 ((an : Int)), .int .i64 ((bn : Int))] 68))
  clear q0 q1
  generalize w2.alloc (.cells #[.int .i64 ((an : Int)), .int .i64 ((bn : Int))] 68) = w3 at *
  generalize w2.heap.size = H at *
  have l0 : w3.cell? ⟨H, 0, none⟩ = some (.int .i64 ((an : Int))) := Bk.cell HL3.out 0
  refine wp_loop_rounds 3 ?_
  rw [rounds_succ]
  go_wp2_with (first | (go_at_call 29; (with_reducible refine (HPW.out _ cs HG3.out rfl).mono ?_); rintro e w4 ⟨rfl, hb4, hf4⟩; have HB4 := Lib.hid hb4; have HF4 := Lib.hid ((HF3.out.weaken (fun _ _ h => h.elim)).trans hf4); have HY4 := Lib.hid (hf4.keep HY3.out (Nat.ne_of_gt hne)); have HL4 := Lib.hid (hf4.keep HL3.out (Nat.ne_of_gt hgH)); clear hf4 hb4; have l1 : w4.cell? ⟨H, 1, none⟩ = some (.int .i64 ((bn : Int))) := Bk.cell HL4.out 1))
  rw [rounds_succ]
  go_wp2_with (first | (go_at_call 29; (with_reducible refine (HPV.out _ _ HB4.out (by simp)).mono ?_); rintro e w5 ⟨rfl, hb5, hf5⟩; have HB5 := Lib.hid hb5; have HF5 := Lib.hid (HF4.out.trans hf5); have HY5 := Lib.hid (hf5.keep HY4.out (Nat.ne_of_gt hne)); clear hf5 hb5))
  rw [rounds_succ]
  clear l0 l1
  go_wp2
  have hz : (lay (lay cs (o + p) ((le an 4).map B)) (o + p + 4) ((le bn 4).map B)).size = cs.size := by simp
  generalize hbse : lay (lay cs (o + p) ((le an 4).map B)) (o + p + 4) ((le bn 4).map B) = bs at *
  have HBS := Lib.hid hbse
  clear hbse
  have hbs : o + n ≤ bs.size := by rw [hz]; exact HGS.out
  have hbs' : o + p + 40 ≤ bs.size := by omega
  clear hz hgH hwH
  go_loopw [10] (fun u wr => ∃ k : Nat, k ≤ 32 ∧ u = .int .i64 k ∧ Bk wr g (lay bs (o + p + 8) ((s.map B).take k)) t ∧ Bk wr w.heap.size Y 26 ∧ Fr (· = g) w wr) (fun u _ => 32 - (intOf u).toNat)
  case atStart => exact ⟨0, by omega, rfl, HB5.out, HY5.out, HF5.out⟩
  case round =>
    obtain ⟨k, hk, rfl, hbk, hyk, hfr⟩ := hrel
    have HBK := Lib.hid hbk
    have HYK := Lib.hid hyk
    have HFR := Lib.hid hfr
    have hlt0 : o + p + 8 + k < bs.size ∨ k = 32 := by omega
    clear hbk hyk hfr
    by_cases hlt : k < 32
    · obtain ⟨v0, hv0⟩ : ∃ v0, wr.cell? ⟨g, o + (p + 8 + k), none⟩ = some v0 := ⟨_, (HBK.out.cell _).trans (Array.getElem?_eq_getElem (by simp; omega))⟩
      have hfz := HBK.out.free (o + (p + 8 + k))
      obtain ⟨v, hv⟩ : ∃ v, (s.map B)[k]? = some (B v) := ⟨s[k]'(by rw [HSL.out]; exact hlt), by rw [List.getElem?_map, List.getElem?_eq_getElem (by rw [HSL.out]; exact hlt)]; rfl⟩
      have hcs : wr.cell? ⟨w.heap.size, 2 + k, none⟩ = some (B v) := (HYK.out.cell _).trans (HSC.out k _ hv)
      have HV := Lib.hid hv
      have hpk : (p : Int) + 8 + k < n := by omega
      have hvw : (0 : Int) ≤ (v.toNat : Int) := by omega
      have hvx : (v.toNat : Int) < 256 := by have := v.toNat_lt; omega
      simp only [B] at hcs
      have c9 : decide ((k : Int) < 32) = true := decide_eq_true (by omega)
      have HLT := Lib.hid hlt
      clear hv hlt0 hbs hbs' hk
      go_wp2
      have hkl : k < (s.map B).length := by have := HLT.out; rw [List.length_map, HSL.out]; exact this
      have hgl : (s.map B)[k] = .int .u8 (v.toNat : Int) := Option.some.inj ((List.getElem?_eq_getElem hkl).symm.trans HV.out)
      refine ⟨⟨k + 1, by have := HLT.out; omega, by go_num, ?_, Bk.setOther HYK.out _ _ (Nat.ne_of_gt hne), HFR.out.set _ _ (.inr rfl)⟩, by have := HLT.out; simp [intOf]; omega⟩
      rw [lay_take hkl, hgl, show o + p + 8 + k = o + (p + 8 + k) by omega]
      exact HBK.out.set _ _
    · have c9 : decide ((k : Int) < 32) = false := decide_eq_false (by omega)
      have HFIN : Hid (Bk wr g (lay bs (o + p + 8) (s.map B)) t) := Lib.hid (by
        have := HBK.out
        have e : (s.map B).take k = s.map B := List.take_of_length_le (by rw [List.length_map, HSL.out]; omega)
        rw [e] at this
        exact this)
      clear hlt0 hlt hk HBK HYK
      go_wp2
      go_ret
      refine ⟨rfl, ?_, HFR.out⟩
      rw [HBS.out]
      exact HFIN.out

/-- PUT: what the reference does with a pointer that is right, at a place that is there. -/
theorem rput_fits (g o n c p : Nat) (a b : Int) (s : List UInt8) (cs : Array Value) (t : TypeId) (w : World) (hs : s.length = 32) (hg : Bk w g cs t) (hcs : o + n ≤ cs.size) (hc : n ≤ c) (hcm : c ≤ 9223372036854775807) (hn : n ≤ 140737488351232) (hr : p + 40 ≤ n) (k : rightB a b s = true) :
    Calls Try.prog 30 #[.slice (some ⟨g, o, none⟩) n c, .int .i64 p, .agg (PC a b s).toArray] w fun e w' => e = .returned (.int .i64 0) ∧ Bk w' g (lay cs (o + p) ((PB a b s).map B)) t ∧ Fr (· = g) w w' := by
  have hk : (a = -1 ∧ b = -1) ∨ (0 ≤ a ∧ a < 4096 ∧ (b = -1 ∨ (0 ≤ b ∧ b < 4096))) := by
    simp only [rightB, isH, secB, Bool.or_eq_true, Bool.and_eq_true, decide_eq_true_eq] at k
    omega
  unfold PB enc
  rcases hk with ⟨rfl, rfl⟩ | ⟨h1, h2, rfl | ⟨h3, h4⟩⟩
  · have := rput_nn g o n c p s cs t w hs hg hcs hc hcm hn hr k
    rw [lay3] at this
    exact this
  · obtain ⟨an, rfl⟩ := Int.eq_ofNat_of_zero_le h1
    have := rput_sn g o n c p an (by omega) s cs t w hs hg hcs hc hcm hn hr k
    rw [lay3] at this
    rw [if_neg (show ¬ ((an : Int) = -1) by omega), if_pos rfl]
    exact this
  · obtain ⟨an, rfl⟩ := Int.eq_ofNat_of_zero_le h1
    obtain ⟨bn, rfl⟩ := Int.eq_ofNat_of_zero_le h3
    have := rput_ss g o n c p an (by omega) bn (by omega) s cs t w hs hg hcs hc hcm hn hr k
    rw [lay3] at this
    rw [if_neg (show ¬ ((an : Int) = -1) by omega), if_neg (show ¬ ((bn : Int) = -1) by omega)]
    exact this

end Go.Proofs.Ytfjkbabeceaelaa.PtrRPut
