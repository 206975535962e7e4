/- A space asked: how many are in use; a place; a sector; the first free one. -/
import Derived.Test.YtpbhnpoldjdfdaaSpKit
import Derived.Test.YtpbhnpoldjdfdaaGApp
import Derived.Laws.Externs
import Derived.Lib.BytesEntry
import Derived.Lib.IndexLaws
set_option linter.unusedVariables false
set_option linter.unusedSimpArgs false
namespace Go.Proofs.Ytpbhnpoldjdfdaa.SpAsk
open Go Go.RowKit Go.Proofs.Ytpbhnpoldjdfdaa.K Go.Proofs.Ytpbhnpoldjdfdaa.EqKit Go.Proofs.Ytpbhnpoldjdfdaa.ArrKit Go.Proofs.Ytpbhnpoldjdfdaa.HeldKit Go.Proofs.Ytpbhnpoldjdfdaa.GKit Go.Proofs.Ytpbhnpoldjdfdaa.GRow Go.Proofs.Ytpbhnpoldjdfdaa.SpKit

def countU (l : List UInt8) : Nat := (l.filter usedB).length
theorem countU_snoc (l : List UInt8) (x : UInt8) : countU (l ++ [x]) = countU l + if usedB x then 1 else 0 := by
  unfold countU
  rw [List.filter_append, List.length_append]
  by_cases h : usedB x = true
  · simp [h]
  · simp [h]
theorem countU_le (l : List UInt8) : countU l ≤ l.length := List.length_filter_le _ _
set_option maxHeartbeats 2000000 in
set_option maxRecDepth 100000 in
theorem Used_calls (s : Sp) (g o c : Nat) (w : World) (hok : s.ok) (h : RdU w (some ⟨g, o, none⟩) s.st) : Calls Try.prog 10 #[.agg (sval s g o c)] w fun e w' => e = .returned (.int .i64 (countU s.st : Int)) ∧ Fr0 w w' := by
  have HFO : Hid (∀ W, Fr0 w W → Calls Try.prog 11 #[.agg (sval s g o c)] W fun e w' => e = .returned (.bool true) ∧ Fr0 W w') := Lib.hid (fun W f => formed_calls s g o c W hok (h.keep f))
  have HR := Lib.hid h
  obtain ⟨h1, h2, h3, h4, h5, h6⟩ := hok
  clear h6
  obtain ⟨a, b, z, st⟩ := s
  simp only [sval] at *
  have HLN := Lib.hid h5
  rw [h5] at HFO ⊢
  clear h h5
  have HX0 : Hid (Bk (w.alloc (.cells (SC a b z (.slice (some ⟨g, o, none⟩) (2 * z) c)) 26)) w.heap.size (SC a b z (.slice (some ⟨g, o, none⟩) (2 * z) c)) 26) := Lib.hid (Bk.new w _)
  have HF0 : Hid (Fr0 w (w.alloc (.cells (SC a b z (.slice (some ⟨g, o, none⟩) (2 * z) c)) 26))) := Lib.hid (Fr.alloc (Fr.refl _ _) _)
  have HI : Hid ((Try.prog.info? 26).map (·.size) = some ((SC a b z (.slice (some ⟨g, o, none⟩) (2 * z) c))).size) := Lib.hid (by kernel_rfl)
  go_enter Try.func10, Try.ntmps10
  go_wp2_with (first | ((with_reducible show wpList _ _ _ ({ dst := _, op := Op.load 26 _, type := _, pos := _, after := _, guard := _ } :: _) _ _); refine wpList_load_row_g (by rfl) 26 _ rfl w.heap.size rfl 26 _ (0, 0) _ HX0.out Try.underlying26 rfl HI.out ?_) | (go_at_call 11; (with_reducible refine (HFO.out _ HF0.out).mono ?_); rintro e w1 ⟨rfl, hf1⟩; have HF1 := Lib.hid (HF0.out.then0 hf1); have c3 : w1.cell? ⟨w.heap.size, 3, none⟩ = some (.slice (some ⟨g, o, none⟩) (2 * z) c) := Bk.cell (hf1.keep HX0.out (fun h => h)) 3; clear hf1))
  go_loop [3, 11] (fun m i => ∃ k : Nat, k ≤ 2 * z ∧ i = .int .i64 k ∧ m = .int .i64 (countU (st.take k) : Int)) (fun _ i => 2 * z - (intOf i).toNat)
  case atStart => exact ⟨0, Nat.zero_le _, rfl, rfl⟩
  case round =>
    obtain ⟨k, hk, rfl, rfl⟩ := hrel
    by_cases hlt : k < 2 * z
    · have hls : k < st.length := by have := HLN.out; omega
      have ck := (HR.out.keep HF1.out).cell hls
      simp only [B] at ck
      have HMK : Hid (countU (st.take (k + 1)) = countU (st.take k) + if usedB st[k] then 1 else 0) := Lib.hid (by rw [List.take_succ_eq_append_getElem hls, countU_snoc])
      have hcl := countU_le (st.take k)
      rw [List.length_take] at hcl
      generalize st[k] = x at *
      generalize countU (st.take k) = m at *
      cases hu : usedB x with
      | true =>
        rw [hu, if_pos rfl] at HMK
        have HUS : Hid (∀ W, Calls Try.prog 19 #[.int .u8 (x.toNat : Int)] W fun e w' => e = .returned (.bool true) ∧ w' = W) := Lib.hid (fun W => by have := used_calls x W; rwa [hu] at this)
        go_wp2_with (go_at_call 19; (with_reducible refine (HUS.out _).mono ?_); rintro e w2 ⟨rfl, rfl⟩)
        go_round
        case rel => exact ⟨k + 1, by omega, by go_num, by rw [HMK.out]; go_num⟩
        case measure => simp [intOf]; omega
      | false =>
        rw [hu, if_neg (by simp), Nat.add_zero] at HMK
        have HUS : Hid (∀ W, Calls Try.prog 19 #[.int .u8 (x.toNat : Int)] W fun e w' => e = .returned (.bool false) ∧ w' = W) := Lib.hid (fun W => by have := used_calls x W; rwa [hu] at this)
        go_wp2_with (go_at_call 19; (with_reducible refine (HUS.out _).mono ?_); rintro e w2 ⟨rfl, rfl⟩)
        go_round
        case rel => exact ⟨k + 1, by omega, by go_num, by rw [HMK.out]; rfl⟩
        case measure => simp [intOf]; omega
    · have HTK : Hid (st.take k = st) := Lib.hid (List.take_of_length_le (by have := HLN.out; omega))
      rw [HTK.out]
      have HCL := Lib.hid (countU_le st)
      generalize hm : countU st = m at *
      have HM := Lib.hid hm
      clear HTK hm
      go_wp2
      go_ret
      exact ⟨by rw [HM.out]; rfl, HF1.out⟩
theorem index_arr {t e : TypeId} {n : Nat} {P : Program} {cs : Array Value} {v : Value} {k : Nat} (w : World) (hu : P.underlying t = some (.array n e)) (hs : (P.info? e).map (·.size) = some 1) (ha : (isAgg e).run P w = .ok false w) (hk : k < n) (hv : cs[k]? = some v) :
    (Instr.index t (.agg cs) (.int .i64 (k : Int))).run P w = .ok v w := by
  have hn : (0 ≤ (k : Int) ∧ (k : Int) < (n : Int)) := by omega
  cases hq : P.info? e with
  | none => simp [hq] at hs
  | some i =>
    have hi : i.size = 1 := by simpa [hq] using hs
    simp [Instr.index, run_underlying hu, asIntOf, hn, hk, go_sem, sizeOf, typeInfo, hq, hi, ha, hv]
theorem ret_pl {x y : Int} (h : x = y) : Ending.returned (.tuple #[.int .i64 x, .bool true]) = Ending.returned (.tuple #[.int .i64 y, .bool true]) := by rw [h]
/-- the sector of a place -/
def Sp.sec (s : Sp) (i : Nat) : Nat := if i < s.z then s.a + i else s.b + (i - s.z)
set_option maxHeartbeats 2000000 in
set_option maxRecDepth 100000 in
theorem place_calls (a b z i c : Nat) (v : Value) (w : World) (hab : a + z ≤ b) (htop : b + z ≤ 4096) (hi : i < 2 * z) : Calls Try.prog 25 #[.agg (SC a b z v), .int .i64 ((if i < z then a + i else b + (i - z) : Nat) : Int)] w fun e w' => e = .returned (.tuple #[.int .i64 (i : Int), .bool true]) ∧ Fr0 w w' := by
  have HX0 : Hid (Bk (w.alloc (.cells (SC a b z v) 26)) w.heap.size (SC a b z v) 26) := Lib.hid (Bk.new w _)
  have HF0 : Hid (Fr0 w (w.alloc (.cells (SC a b z v) 26))) := Lib.hid (Fr.alloc (Fr.refl _ _) _)
  have HLD : Hid (∀ W, Bk W w.heap.size (SC a b z v) 26 → W.rangeAt w.heap.size 0 [.int .i64 (a : Int), .int .i64 (b : Int)]) := Lib.hid (fun W h j u hu => by
    rw [Nat.zero_add, Bk.cell h]
    rcases (show j = 0 ∨ j = 1 ∨ 2 ≤ j by omega) with rfl | rfl | hj
    · exact hu
    · exact hu
    · rw [List.getElem?_eq_none (by simpa using hj)] at hu; cases hu)
  have HI : Hid ((Try.prog.info? 24).map (·.size) = some ([.int .i64 (a : Int), .int .i64 (b : Int)] : List Value).length) := Lib.hid (by kernel_rfl)
  have c2 : (w.alloc (.cells (SC a b z v) 26)).cell? ⟨w.heap.size, 2, none⟩ = some (.int .i64 (z : Int)) := Bk.cell HX0.out 2
  have ix0 : ∀ W, (Instr.index 24 (.agg #[.int .i64 (a : Int), .int .i64 (b : Int)]) (.int .i64 0)).run Try.prog W = .ok (.int .i64 (a : Int)) W := fun W => index_arr (k := 0) W Try.underlying24 (e := 3) (by kernel_rfl) (by kernel_rfl) (by decide) rfl
  have ix1 : ∀ W, (Instr.index 24 (.agg #[.int .i64 (a : Int), .int .i64 (b : Int)]) (.int .i64 1)).run Try.prog W = .ok (.int .i64 (b : Int)) W := fun W => index_arr (k := 1) W Try.underlying24 (e := 3) (by kernel_rfl) (by kernel_rfl) (by decide) rfl
  by_cases hz : i < z
  · rw [if_pos hz]
    go_enter Try.func25, Try.ntmps25
    go_wp2_with ((with_reducible show wpList _ _ _ ({ dst := _, op := Op.load 24 _, type := _, pos := _, after := _, guard := _ } :: _) _ _); refine wpList_load_mid_g (by rfl) 24 _ rfl w.heap.size 0 rfl _ _ (HLD.out _ HX0.out) Try.underlying24 rfl HI.out ?_)
    refine wp_loop_rounds 2 ?_
    rw [rounds_succ]
    go_wp2
    go_ret2
    exact ⟨ret_pl (by omega), HF0.out⟩
  · have hbz : z ≤ i := by omega
    obtain ⟨j, rfl⟩ : ∃ j, i = z + j := ⟨i - z, by omega⟩
    have hj : j < z := by omega
    have hbj : a + z ≤ b + j := by omega
    rw [if_neg hz, Nat.add_sub_cancel_left]
    clear hz hbz hi
    go_enter Try.func25, Try.ntmps25
    go_wp2_with ((with_reducible show wpList _ _ _ ({ dst := _, op := Op.load 24 _, type := _, pos := _, after := _, guard := _ } :: _) _ _); refine wpList_load_mid_g (by rfl) 24 _ rfl w.heap.size 0 rfl _ _ (HLD.out _ HX0.out) Try.underlying24 rfl HI.out ?_)
    refine wp_loop_rounds 2 ?_
    rw [rounds_succ]
    go_wp2
    rw [rounds_succ]
    go_wp2
    go_ret2
    exact ⟨ret_pl (by omega), HF0.out⟩
/-- the space in the variable p -/
structure SAt (w : World) (p : Nat) (s : Sp) (g o c : Nat) : Prop where
  blk : Bk w p (sval s g o c) 26
  rd : RdU w (some ⟨g, o, none⟩) s.st
  cap : s.st.length ≤ c
  max : c ≤ 9223372036854775807
theorem SAt.keep {w w1 : World} {p : Nat} {s : Sp} {g o c : Nat} (h : SAt w p s g o c) (f : Fr0 w w1) : SAt w1 p s g o c := ⟨f.keep h.blk (fun h => h), h.rd.keep f, h.cap, h.max⟩
set_option maxHeartbeats 2000000 in
set_option maxRecDepth 100000 in
theorem sector_calls (p : Nat) (a b z i : Nat) (v : Value) (w : World) (hz : 1 ≤ z) (hz2 : z ≤ 2000) (hab : a + z ≤ b) (htop : b + z ≤ 4096) (hi : i < 2 * z) (h : Bk w p (SC a b z v) 26) : Calls Try.prog 15 #[.pointer (some ⟨p, 0, none⟩), .int .i64 (i : Int)] w fun e w' => e = .returned (.int .i64 ((if i < z then a + i else b + (i - z) : Nat) : Int)) ∧ Fr0 w w' := by
  have c0 : w.cell? ⟨p, 0, none⟩ = some (.int .i64 (a : Int)) := Bk.cell h 0
  have c1 : w.cell? ⟨p, 1, none⟩ = some (.int .i64 (b : Int)) := Bk.cell h 1
  have c2 : w.cell? ⟨p, 2, none⟩ = some (.int .i64 (z : Int)) := Bk.cell h 2
  have hzz : ¬ (z : Int) = 0 := by omega
  have hzm : ¬ (z : Int) = -1 := by omega
  by_cases hlt : i < z
  · rw [if_pos hlt]
    have hq : Int.tdiv (i : Int) (z : Int) = 0 := by rw [← Int.ofNat_tdiv, Nat.div_eq_of_lt hlt]; rfl
    have hr : Int.tmod (i : Int) (z : Int) = (i : Int) := by rw [← Int.ofNat_tmod, Nat.mod_eq_of_lt hlt]
    go_enter Try.func15, Try.ntmps15
    go_wp2
    go_quiet (fail)
    go_wp2
    go_ret
    exact ⟨rfl, Fr.drewN (Fr.refl _ _) nq⟩
  · obtain ⟨j, rfl⟩ : ∃ j, i = z + j := ⟨i - z, by omega⟩
    have hj : j < z := by omega
    have hq : Int.tdiv ((z : Int) + (j : Int)) (z : Int) = 1 := by rw [← Int.natCast_add, ← Int.ofNat_tdiv, Nat.add_div_left _ (by omega), Nat.div_eq_of_lt hj]; rfl
    have hr : Int.tmod ((z : Int) + (j : Int)) (z : Int) = (j : Int) := by rw [← Int.natCast_add, ← Int.ofNat_tmod, Nat.add_mod_left, Nat.mod_eq_of_lt hj]
    rw [if_neg hlt, Nat.add_sub_cancel_left]
    clear hlt hi
    go_enter Try.func15, Try.ntmps15
    go_wp2
    go_quiet (fail)
    go_wp2
    go_ret
    exact ⟨rfl, Fr.drewN (Fr.refl _ _) nq⟩
theorem bytesOf_nums (l : List UInt8) : Lib.bytesOf (l.map fun x => (x.toNat : Int)) = l := by
  unfold Lib.bytesOf
  rw [List.map_map]
  conv => rhs; rw [← List.map_id l]
  apply List.map_congr_left
  intro x _
  simp
set_option maxHeartbeats 2000000 in
set_option maxRecDepth 100000 in
theorem ib_calls (g o c : Nat) (l : List UInt8) (w : World) (h : RdU w (some ⟨g, o, none⟩) l) : Calls Try.prog 22 #[.slice (some ⟨g, o, none⟩) l.length c, .int .u8 0] w fun e w' => e = .returned (.int .i64 (Lib.indexByte l 0)) ∧ w' = w := by
  have hl : (l.map fun x => (x.toNat : Int)).length = l.length := by simp
  have hc : ∀ i, i < l.length → w.cell? ⟨g, o + i, none⟩ = some (.int .u8 ((l.map fun x => (x.toNat : Int)).getD i 0)) := fun i hi => by
    rw [h.cell hi, List.getD_eq_getElem?_getD, List.getElem?_map, List.getElem?_eq_getElem hi]; rfl
  have hrun := Lib.run_indexByteSlice (P := Try.prog) w g o l.length c (l.map fun x => (x.toNat : Int)) hl hc 0
  rw [bytesOf_nums] at hrun
  go_enter Try.func22, Try.ntmps22
  go_wp2
  rw [run_callFunc_extern Try.func27 (by kernel_rfl) (by kernel_rfl) (by kernel_rfl) (e := Extern.BytealgIndexByte.indexByte) (by kernel_rfl), hrun]
  simp only [Result.andThen]
  rw [Oper.upon_value]
  go_wp2
  go_ret
  exact ⟨rfl, rfl⟩
/-- the first free place of a region; below 0: there is none -/
def freeOf (s : Sp) (r : Nat) : Int := if Lib.indexByte ((s.st.drop (r * s.z)).take s.z) 0 < 0 then Lib.indexByte ((s.st.drop (r * s.z)).take s.z) 0 else ((r * s.z : Nat) : Int) + Lib.indexByte ((s.st.drop (r * s.z)).take s.z) 0

end Go.Proofs.Ytpbhnpoldjdfdaa.SpAsk
