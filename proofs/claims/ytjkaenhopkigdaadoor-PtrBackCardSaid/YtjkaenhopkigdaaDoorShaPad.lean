/- Padded bytes: the walks of sha.Pad and lazaretref01.Pad. -/
import Derived.Test.YtjkaenhopkigdaaDoorRefCopy
import Derived.Test.YtjkaenhopkigdaaDoorArrKit
import Derived.Laws.ShiftsVar
import Derived.Laws.CopyRow
import Derived.Laws.IdiomCopy
import Derived.Deep.OwnRows
import Derived.LoopTactic
set_option linter.unusedVariables false
set_option linter.unusedSimpArgs false
namespace Go.Proofs.YtjkaenhopkigdaaDoor.ShaPad
open Go Go.RowKit Go.Proofs.YtjkaenhopkigdaaDoor.K Go.Proofs.YtjkaenhopkigdaaDoor.RefCopy Go.Proofs.YtjkaenhopkigdaaDoor.ArrKit

/-- how many zeros stand between -/
def zs (n : Nat) : Nat := (119 - n % 64) % 64
/-- a number in 8 bytes, the highest first -/
def be8 (x : Nat) : List UInt8 := (List.range 8).map fun i => UInt8.ofNat (x / 2 ^ (56 - 8 * i))
def padOf (l : List UInt8) : List UInt8 := l ++ [128] ++ List.replicate (zs l.length) 0 ++ be8 (8 * l.length)
@[simp] theorem be8_length (x : Nat) : (be8 x).length = 8 := rfl
theorem padOf_length (l : List UInt8) : (padOf l).length = l.length + 1 + zs l.length + 8 := by simp [padOf]; omega
theorem copy_sl {P : Program} (dT sT ty elem : TypeId) (g dLen dCap n c : Nat) (a : Option Addr) (l : List UInt8) (cur : Array Value) (t : TypeId) (w : World)
    (hu : P.underlying dT = some (.slice elem)) (hs : (P.info? elem).map (·.size) = some 1) (hb : Bk w g cur t) (hl : l.length = n) (hrd : Rd w a l) (hle : n ≤ dLen) (hfit : n ≤ cur.size) :
    (Builtin.copy_ #[dT, sT] ty #[.slice (some ⟨g, 0, none⟩) dLen dCap, .slice a n c]).run P w = .ok (goInt n) (w.setRow g (l.map B ++ cur.toList.drop n).toArray) := by
  by_cases h0 : n = 0
  · have : l = [] := List.eq_nil_of_length_eq_zero (by omega)
    subst this
    subst h0
    rw [run_copy_none w dT sT ty elem _ a dLen dCap 0 c hu hs (by simp)]
    simp only [List.map_nil, List.nil_append, List.drop_zero, Array.toArray_toList]
    rw [setRow_self w g cur t (0, 0) hb]
    rfl
  · obtain ⟨b, o, rfl, -, hc⟩ := hrd.form (by omega)
    have := run_copy_row (P := P) w dT sT ty elem g 0 dLen dCap ⟨b, o, none⟩ n c cur t (l.map B) hu hs hb (by rw [List.length_map, hl]; exact (Nat.min_eq_left hle).symm) (fun j v hj => by
      rw [List.getElem?_map, Option.map_eq_some_iff] at hj
      obtain ⟨x, hx, rfl⟩ := hj
      obtain ⟨hj, hx⟩ := List.getElem?_eq_some_iff.1 hx
      rw [add_form, hc j hj, hx]) (by simp; omega) (fun v hv => by
      obtain ⟨x, -, rfl⟩ := List.mem_map.1 hv
      rfl)
    rw [this, List.length_map, hl, List.take_zero, List.nil_append, Nat.zero_add]
theorem pad_tail (l : List UInt8) (k T : Nat) (hk : k < 8) (hT : l.length + 1 + zs l.length + 8 = T) : ((padOf l).map B)[T - 1 - k]? = some (.int .u8 ((l.length * 8 / 2 ^ (8 * k) % 256 : Nat) : Int)) := by
  rw [padOf, List.map_append, List.getElem?_append_right (by simp; omega), be8]
  simp only [List.length_map, List.length_append, List.length_replicate, List.length_singleton, List.getElem?_map]
  rw [show T - 1 - k - (l.length + 1 + zs l.length) = 7 - k by omega, List.getElem?_range (by omega)]
  simp only [Option.map_some, B_ofNat]
  rw [show 56 - 8 * (7 - k) = 8 * k by omega, Nat.mul_comm 8]
set_option maxHeartbeats 2000000 in
set_option maxRecDepth 100000 in
theorem pad_calls (a : Option Addr) (n c : Nat) (l : List UInt8) (w : World) (hl : l.length = n) (hrd : Rd w a l) (hn : n ≤ 140737488351232) :
    Calls Tryd.prog 43 #[.slice a n c] w (CopyPost (padOf l).length (padOf l) w) := by
  obtain ⟨i8, hi, hz0, hz1, hz2⟩ := info_parts info8
  have HI := Lib.hid hi
  have HZ : Hid (i8.zero = some (.int .u8 0) ∧ i8.size = 1 ∧ i8.bytes = 1) := Lib.hid ⟨hz0, hz1, hz2⟩
  clear hi hz0 hz1 hz2
  have HL := Lib.hid hl
  have HR := Lib.hid hrd
  clear hl hrd
  obtain ⟨z, hz⟩ : ∃ z, zs n = z := ⟨_, rfl⟩
  have HZS := Lib.hid hz
  have hz64 : z < 64 := by rw [← hz]; exact Nat.mod_lt _ (by decide)
  have hm : n % 64 < 64 := Nat.mod_lt _ (by decide)
  have e2 : (119 - (n : Int) % 64) % 64 = (z : Int) := by rw [← hz, zs]; omega
  obtain ⟨T, hT⟩ : ∃ T, n + 1 + z + 8 = T := ⟨_, rfl⟩
  have e3 : (n : Int) + 1 + z + 8 = (T : Int) := by omega
  have HT := Lib.hid hT
  have hTn : n < T := by omega
  have hTm : T ≤ 140737488351400 := by omega
  clear hT
  obtain ⟨G, hG⟩ : ∃ G, w.heap.size = G := ⟨_, rfl⟩
  have HG := Lib.hid hG
  have hb1 : Bk (w.alloc (.cells (madeCells #[.int .u8 0] T) 5)) G (madeCells #[.int .u8 0] T) 5 := hG ▸ Bk.new w _
  have hs1 : (w.alloc (.cells (madeCells #[.int .u8 0] T) 5)).heap.size = G + 1 := by rw [← hG]; simp
  have hf1 : Fr0 w (w.alloc (.cells (madeCells #[.int .u8 0] T) 5)) := Fr.alloc (Fr.refl _ _) _
  have hr1 := HR.out.later hf1 (fun _ _ h => h)
  have hcs : (madeCells #[.int .u8 0] T).size = T := size_madeCells _ _
  have hcz : ∀ j, j < T → (madeCells #[.int .u8 0] T)[j]? = some (.int .u8 0) := fun j hj => by simp [madeCells, hj, Nat.mod_one]
  generalize hZc : madeCells #[.int .u8 0] T = Zc at *
  have HZc := Lib.hid hZc
  generalize hw1 : w.alloc (.cells Zc 5) = w1 at *
  have HC : Hid (∀ ty, (Builtin.copy_ #[35, 35] ty #[.slice (some ⟨G, 0, none⟩) T T, .slice a n c]).run Tryd.prog w1 = .ok (goInt n) (w1.setRow G (l.map B ++ Zc.toList.drop n).toArray)) := Lib.hid fun ty =>
    copy_sl 35 35 ty 5 G T T n c a l Zc 5 w1 Tryd.underlying35 (by kernel_rfl) hb1 HL.out hr1 (by omega) (by omega)
  have hb2 := ArrKit.Bk.row hb1 (l.map B ++ Zc.toList.drop n).toArray
  have hf2 := ArrKit.Fr.row hf1 G (l.map B ++ Zc.toList.drop n).toArray (.inl (by omega))
  have hc2s : (l.map B ++ Zc.toList.drop n).toArray.size = T := by simp [HL.out, hcs]; omega
  have hc2 : ∀ j, j < T → (l.map B ++ Zc.toList.drop n).toArray[j]? = if j < n then (l.map B)[j]? else some (.int .u8 0) := fun j hj => by
    rw [List.getElem?_toArray, List.getElem?_append, List.length_map, HL.out]
    split
    · rfl
    · rw [List.getElem?_drop, show n + (j - n) = j by omega, Array.getElem?_toList]
      exact hcz j hj
  generalize (l.map B ++ Zc.toList.drop n).toArray = C2 at *
  generalize hw2 : w1.setRow G C2 = w2 at *
  have hcl2 : ∃ v, w2.cell? ⟨G, n, none⟩ = some v := ⟨_, (hb2.cell n).trans (Array.getElem?_eq_getElem (by omega))⟩
  obtain ⟨v2, hv2⟩ := hcl2
  have hz2 := hb2.free n
  have HB2 := Lib.hid hb2
  have HF2 := Lib.hid hf2
  have HC2 := Lib.hid hc2
  have HC2s := Lib.hid hc2s
  clear hb1 hs1 hf1 hr1 hcs hcz hb2 hf2 hc2 hc2s hz
  go_enter Tryd.func43, Tryd.ntmps43
  go_wp2_with (first | (at_make; refine wpList_make_row _ rfl _ _ 35 rfl 5 i8 (.int .u8 0) Tryd.underlying35 HI.out HZ.out.1 HZ.out.2.1 rfl .i64 .i64 T rfl rfl (by rw [HZ.out.2.2]; omega) (by omega) ?_; rw [HZc.out]) | (simp only [hG, hw1, HC.out]))
  go_loopw [30] (fun i wr => ∃ k : Nat, k ≤ 8 ∧ i = .int .i64 k ∧ ∃ cur, Bk wr G cur 5 ∧ cur.size = T ∧ (∀ j, j < T → cur[j]? = if j < T - 8 ∨ T - k ≤ j then ((padOf l).map B)[j]? else some (.int .u8 0)) ∧ Fr0 w wr) (fun i _ => 8 - (intOf i).toNat)
  case atStart =>
    refine ⟨0, by omega, rfl, C2.setIfInBounds n (.int .u8 128), HB2.out.set n _, by simp [HC2s.out], fun j hj => ?_, HF2.out.set _ _ (.inl (by have := HG.out; simp; omega))⟩
    have hT := HT.out
    have hL := HL.out
    rw [Array.getElem?_setIfInBounds, HC2.out j hj, padOf]
    simp only [List.map_append, List.append_assoc, Nat.sub_zero, List.map_replicate]
    by_cases h1 : j < n
    · rw [if_neg (by omega), if_pos h1, if_pos (by omega), List.getElem?_append_left (by simp; omega)]
    · by_cases h2 : n = j
      · rw [if_pos h2, if_pos (by rw [HC2s.out]; omega), if_pos (by omega), List.getElem?_append_right (by simp; omega)]
        simp [hL, ← h2, B]
      · rw [if_neg h2, if_neg h1]
        split
        · rename_i h3
          have hz' : zs l.length = z := by rw [hL]; exact HZS.out
          rw [List.getElem?_append_right (by simp; omega), List.getElem?_append_right (by simp; omega), List.getElem?_append_left (by simp [hz']; omega)]
          rw [List.getElem?_replicate, if_pos (by simp [hz']; omega)]
          rfl
        · rfl
  case round =>
    obtain ⟨k, hk, rfl, cur, hbk, hcs, hcc, hfr⟩ := hrel
    have LB := Lib.hid hbk
    have LS := Lib.hid hcs
    have LC := Lib.hid hcc
    have LF := Lib.hid hfr
    clear hbk hcs hcc hfr HB2 HF2 HC2 HC2s hv2 hz2
    by_cases hlt : k < 8
    rotate_left
    · have cz : decide ((k : Int) < 8) = false := decide_eq_false (by omega)
      obtain rfl : k = 8 := by omega
      go_wp2
      go_ret
      have hT := HT.out
      have hpl : (padOf l).length = T := by rw [padOf_length, HL.out, HZS.out]; exact hT
      have hmx := hTm
      refine ⟨G, T, cur, by rw [hpl]; rfl, by have := HG.out; omega, ⟨LB.out, rfl, by rw [hpl]; exact Nat.le_refl _, LS.out, by omega, fun i hi => ?_⟩, LF.out⟩
      rw [LC.out i (by omega), if_pos (by omega), List.getElem?_map, List.getElem?_eq_getElem hi]
      rfl
    · have cz : decide ((k : Int) < 8) = true := decide_eq_true (by omega)
      have hix : T - 1 - k < T := by omega
      have hcl : wr.cell? ⟨G, T - 1 - k, none⟩ = some (.int .u8 0) := by
        rw [LB.out.cell, LC.out _ hix, if_neg (by omega)]
      have hfz := LB.out.free (T - 1 - k)
      have HV : Hid (((padOf l).map B)[T - 1 - k]? = some (.int .u8 (((n : Int) * 8 / 2 ^ (8 * k)) % 256))) := Lib.hid (by
        rw [pad_tail l k T (by omega) (by rw [HL.out, HZS.out]; exact HT.out), HL.out]
        norm_cast)
      go_wp2
      refine ⟨⟨k + 1, by omega, by go_num, cur.setIfInBounds (T - 1 - k) _, LB.out.set _ _, by simp [LS.out], fun j hj => ?_, LF.out.set _ _ (.inl (by have := HG.out; simp; omega))⟩, by simp [intOf]; omega⟩
      rw [Array.getElem?_setIfInBounds]
      by_cases h1 : T - 1 - k = j
      · rw [if_pos h1, if_pos (by rw [LS.out]; omega), if_pos (by omega), ← h1]
        exact HV.out.symm
      · rw [if_neg h1, LC.out j hj]
        by_cases h2 : j < T - 8 ∨ T - k ≤ j
        · rw [if_pos h2, if_pos (by omega)]
        · rw [if_neg h2, if_neg (by omega)]

theorem own_row {w : World} {g n cap base : Nat} {cur : Array Value} {l : List UInt8} (h : Own w g n cap cur l) (hb : base ≤ g) : w.ownsRow base 5 1 (.slice (some ⟨g, 0, none⟩) n cap) n (l.map B) := by
  refine ⟨by simp [h.len], .inr ⟨g, cap, cur, rfl, hb, h.blk, h.room, h.cap, by rw [h.size, Nat.mul_one], ?_⟩⟩
  apply List.ext_getElem?
  intro i
  rw [List.getElem?_take, Nat.mul_one]
  by_cases hi : i < n
  · rw [if_pos hi, Array.getElem?_toList, h.here i (by rw [h.len]; exact hi), List.getElem?_map, List.getElem?_eq_getElem (by rw [h.len]; exact hi)]
    rfl
  · rw [if_neg hi, List.getElem?_eq_none (by simp [h.len]; omega)]
theorem own_of_row {w : World} {g n cap base : Nat} {l : List UInt8} (h : w.ownsRow base 5 1 (.slice (some ⟨g, 0, none⟩) n cap) n (l.map B)) : ∃ cur, Own w g n cap cur l ∧ base ≤ g := by
  obtain ⟨h1, h2⟩ := h
  rcases h2 with ⟨h2, -⟩ | ⟨g', cap', cur, e, hge, hbk, hcap, hmax, hsz, htake⟩
  · cases h2
  simp only [Value.slice.injEq, Option.some.injEq, Addr.mk.injEq, and_true, true_and] at e
  obtain ⟨rfl, rfl⟩ := e
  have hl : l.length = n := by simpa using h1
  refine ⟨cur, ⟨hbk, hl, hcap, by omega, hmax, fun i hi => ?_⟩, hge⟩
  have h3 : (cur.toList.take n)[i]? = some (B l[i]) := by
    rw [Nat.mul_one] at htake
    rw [htake]; simp [hi]
  rw [List.getElem?_take] at h3
  split at h3
  · rwa [Array.getElem?_toList] at h3
  · cases h3
theorem fr_grown {w w1 w2 : World} {r : Option Nat} (h : Fr0 w w1) (hg : w1.grownBy w2 r) (hr : ∀ g, r = some g → w.heap.size ≤ g) : Fr0 w w2 := by
  refine h.then (S' := fun g => r = some g) ⟨hg.os, hg.tape, hg.output, hg.size, fun i hi hn => hg.block i hi (fun e => hn e.symm)⟩ (fun i hi e => ?_)
  have := hr i e
  omega
theorem wpList_app1 {ops : Array Oper} {rest : List Oper} {o : Oper} {a : Act} {Q : Exit → Act → World → Prop} {w : World} {vv : Value} (hgd : o.guard = none) (s x : Operand) (ho : o.op = .call { callee := .builtin .append, args := #[s, x], argTypes := #[35, 35] })
    (base g n cap : Nat) (cur : Array Value) (l : List UInt8) (v : UInt8) (hv : vv = B v) (hs : a.eval s = .slice (some ⟨g, 0, none⟩) n cap) (hx : a.eval x = .slice (some ⟨w.heap.size, 0, none⟩) 1 1)
    (hown : Own w g n cap cur l) (hb : base ≤ g) (hbs : base ≤ w.heap.size) (hn : n < 140737488355328)
    (h : ∀ g' cap' cur' w', Own w' g' (n + 1) cap' cur' (l ++ [v]) → base ≤ g' → (w.alloc (.cells #[vv] 5)).grownBy w' (some g) → wpList Tryd.prog ops Q rest (a.put o.dst (.slice (some ⟨g', 0, none⟩) (n + 1) cap')) w') :
    wpList Tryd.prog ops Q (o :: rest) a (w.alloc (.cells #[vv] 5)) := by
  obtain ⟨i8, hi, hz0, hz1, hz2⟩ := info_parts info8
  have h2 : Own (w.alloc (.cells #[vv] 5)) g n cap cur l := ⟨Bk.alloc hown.blk _, hown.len, hown.room, hown.size, hown.cap, hown.here⟩
  refine wpList_append_lies _ hgd s x 35 ho base 5 i8 (.int .u8 0) 1 1 Tryd.underlying35 hi hz0 hz1 hz2 rfl (by omega) _ n (l.map B) hs (own_row h2 hb) ⟨w.heap.size, 0, none⟩ 1 1 [vv] hx rfl (fun j u hj => ?_) (fun u hu => ?_) (by omega) (by unfold maxLen; omega) (by omega) (by simp; omega) (w.heap.size + 1) (by simp) ?_
  · match j, hj with
    | 0, hj =>
      rw [add_form, (show Bk (w.alloc (.cells #[vv] 5)) w.heap.size #[vv] 5 from Bk.new w _).cell]
      simpa using hj
  · rw [List.mem_singleton] at hu
    subst hu
    rw [hv]
    rfl
  · intro g' cap' w' hown' hgrow hat hlt
    rw [show l.map B ++ [vv] = (l ++ [v]).map B by rw [hv]; simp] at hown'
    obtain ⟨cur', ho', hb'⟩ := own_of_row hown'
    exact h g' cap' cur' w' ho' hb' hgrow
/-- how long a slice is -/
def slen : Value → Nat
  | .slice _ n _ => n
  | _ => 0
/-- the slice that is being padded -/
def PW (w wr : World) (base : Nat) (v : Value) (l : List UInt8) : Prop := ∃ g cap cur, v = .slice (some ⟨g, 0, none⟩) l.length cap ∧ base ≤ g ∧ Own wr g l.length cap cur l ∧ Fr0 w wr
theorem fr_app {w w1 w2 : World} {o : Obj} {g : Nat} (h : Fr0 w w1) (hg : (w1.alloc o).grownBy w2 (some g)) (hr : w.heap.size ≤ g) : Fr0 w w2 :=
  fr_grown (Fr.alloc h o) hg (fun g' e => by cases e; exact hr)
set_option maxHeartbeats 2000000 in
set_option maxRecDepth 100000 in
theorem rpad_calls (a : Option Addr) (n c : Nat) (l : List UInt8) (w : World) (hl : l.length = n) (hrd : Rd w a l) (hn : n ≤ 140737488351232) :
    Calls Tryd.prog 34 #[.slice a n c] w (CopyPost (padOf l).length (padOf l) w) := by
  have HL := Lib.hid hl
  have HR := Lib.hid hrd
  clear hl hrd
  obtain ⟨z, hz⟩ : ∃ z, zs n = z := ⟨_, rfl⟩
  have HZS := Lib.hid hz
  have hz64 : z < 64 := by rw [← hz]; exact Nat.mod_lt _ (by decide)
  have HZN : Hid (z = (119 - n % 64) % 64) := Lib.hid hz.symm
  clear hz
  go_enter Tryd.func34, Tryd.ntmps34
  go_wp2_with (first | (at_builtin; refine wpList_app1 rfl _ _ rfl w.heap.size g0 n cap0 cur0 l 128 rfl rfl rfl HO0.out HG0.out (Nat.le_trans HG0.out (Nat.le_of_lt (Bk.lt HO0.out.blk))) (by omega) ?_; intro g1 cap1 cur1 w2 hown1 hge1 hgr1; have HO1 := Lib.hid hown1; have HG1 := Lib.hid hge1; have HF1 := Lib.hid (fr_app HF0.out hgr1 HG0.out); clear hown1 hge1 hgr1) | (go_at_call 20; (with_reducible refine (copy_calls a n c l _ HL.out HR.out hn).mono ?_); rintro e w1 ⟨g0, cap0, cur0, rfl, hge0, hown0, hfr0⟩; have HO0 := Lib.hid hown0; have HF0 := Lib.hid hfr0; have HG0 := Lib.hid hge0; clear hown0 hfr0 hge0))
  go_loopw [3] (fun v wr => ∃ k g cap cur m, k ≤ z ∧ m = n + 1 + k ∧ v = .slice (some ⟨g, 0, none⟩) m cap ∧ w.heap.size ≤ g ∧ Own wr g m cap cur (l ++ [128] ++ List.replicate k 0) ∧ Fr0 w wr) (fun v _ => n + 1 + z - slen v)
  case atStart => exact ⟨0, g1, cap1, cur1, n + 1, by omega, rfl, rfl, HG1.out, by simpa using HO1.out, HF1.out⟩
  case round =>
    obtain ⟨k, g, cap, cur, m, hk, hm, rfl, hge, hown, hfr⟩ := hrel
    have LO := Lib.hid hown
    have LF := Lib.hid hfr
    have LG := Lib.hid hge
    have HM := Lib.hid hm
    clear hown hfr hge HO1 HG1 HF1 HO0 HF0 HG0
    have hm0 : m < 140737488355328 := by omega
    by_cases hlt : k < z
    rotate_left
    · have cz : ((m : Int) % 64 == 56) = true := by
        have := HZN.out
        rw [beq_iff_eq]
        omega
      have LO2 : Hid (Own wr g m cap cur (l ++ [128] ++ List.replicate z 0)) := Lib.hid (by
        have e : k = z := by omega
        subst e
        exact LO.out)
      have hmz : Hid (m = n + 1 + z) := Lib.hid (by omega)
      clear LO hm hlt
      go_wp2
      generalize ((m : Int) % 64 != 56) = bb
      go_loopw [3, 5] (fun v s wr => ∃ k g cap cur m, k ≤ 8 ∧ m = n + 1 + z + k ∧ v = .slice (some ⟨g, 0, none⟩) m cap ∧ s = .int .i64 (56 - 8 * (k : Int)) ∧ w.heap.size ≤ g ∧ Own wr g m cap cur (l ++ [128] ++ List.replicate z 0 ++ (be8 (8 * n)).take k) ∧ Fr0 w wr) (fun v _ _ => n + 1 + z + 8 - slen v)
      case atStart => exact ⟨0, g, cap, cur, m, by omega, hmz.out, rfl, rfl, LG.out, by simpa using LO2.out, LF.out⟩
      case round =>
        obtain ⟨k, g, cap, cur, m, hk, hm, rfl, rfl, hge, hown, hfr⟩ := hrel
        have MO := Lib.hid hown
        have MF := Lib.hid hfr
        have MG := Lib.hid hge
        have MM := Lib.hid hm
        clear hown hfr hge LO2 LF LG hmz
        have hm1 : m < 140737488355328 := by omega
        clear hm cz
        by_cases hlt : k < 8
        rotate_left
        · have cz : decide ((0 : Int) ≤ 56 - 8 * (k : Int)) = false := decide_eq_false (by omega)
          have MP : Hid (Own wr g m cap cur (padOf l) ∧ (padOf l).length = m) := Lib.hid (by
            have e : k = 8 := by omega
            subst e
            have hp : padOf l = l ++ [128] ++ List.replicate z 0 ++ (be8 (8 * n)).take 8 := by
              rw [padOf, HL.out, HZS.out, List.take_of_length_le (by simp)]
            refine ⟨hp ▸ MO.out, ?_⟩
            rw [padOf_length, HL.out, HZS.out, MM.out])
          go_wp2
          go_ret
          exact ⟨g, cap, cur, by rw [MP.out.2]; rfl, MG.out, by rw [MP.out.2]; exact MP.out.1, MF.out⟩
        · have cz : decide ((0 : Int) ≤ 56 - 8 * (k : Int)) = true := decide_eq_true (by omega)
          obtain ⟨t, ht⟩ : ∃ t, 56 - 8 * k = t := ⟨_, rfl⟩
          have hti : (56 - 8 * (k : Int)) = (t : Int) := by omega
          have HTT := Lib.hid ht
          have HTI := Lib.hid hti
          rw [hti] at cz
          rw [hti]
          have ht64 : t < 64 := by omega
          clear ht hti
          have HVV : Hid (Value.int .u8 (8 * (n : Int) / 2 ^ t % 256) = B ((be8 (8 * n))[k]'(by simp; omega))) := Lib.hid (by
            simp only [be8, List.getElem_map, List.getElem_range, B_ofNat]
            rw [HTT.out]
            norm_cast)
          go_wp2_with (at_builtin; refine wpList_app1 rfl _ _ rfl w.heap.size g m cap cur _ _ HVV.out rfl rfl MO.out MG.out (Nat.le_trans MG.out (Nat.le_of_lt (Bk.lt MO.out.blk))) (by omega) ?_; intro g2 cap2 cur2 w3 hown2 hge2 hgr2; have HO2 := Lib.hid hown2; have HG2 := Lib.hid hge2; have HF2 := Lib.hid (fr_app MF.out hgr2 MG.out); clear hown2 hge2 hgr2)
          refine ⟨⟨k + 1, g2, cap2, cur2, m + 1, by omega, by have := MM.out; omega, rfl, congrArg (Value.int .i64) (by have := HTI.out; omega), HG2.out, ?_, HF2.out⟩, by have := MM.out; simp [slen]; omega⟩
          have := HO2.out
          rwa [List.append_assoc, ← List.take_succ_eq_append_getElem] at this
    · have cz : ((m : Int) % 64 == 56) = false := by
        have := HZN.out
        rw [beq_eq_false_iff_ne]
        omega
      clear hm
      go_wp2_with (at_builtin; refine wpList_app1 rfl _ _ rfl w.heap.size g m cap cur _ 0 rfl rfl rfl LO.out LG.out (Nat.le_trans LG.out (Nat.le_of_lt (Bk.lt LO.out.blk))) (by omega) ?_; intro g2 cap2 cur2 w3 hown2 hge2 hgr2; have HO2 := Lib.hid hown2; have HG2 := Lib.hid hge2; have HF2 := Lib.hid (fr_app LF.out hgr2 LG.out); clear hown2 hge2 hgr2)
      refine ⟨⟨k + 1, g2, cap2, cur2, m + 1, by omega, by have := HM.out; omega, rfl, HG2.out, ?_, HF2.out⟩, by have := HM.out; simp [slen]; omega⟩
      have := HO2.out
      rwa [List.append_assoc, ← List.replicate_succ'] at this

end Go.Proofs.YtjkaenhopkigdaaDoor.ShaPad
