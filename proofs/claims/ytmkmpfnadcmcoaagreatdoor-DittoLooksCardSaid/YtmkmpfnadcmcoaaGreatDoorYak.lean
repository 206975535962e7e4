/- The theorems that the claim uses, text behind text (part 11). -/
import Derived.Test.YtmkmpfnadcmcoaaGreatDoorYaa
import Derived.Test.YtmkmpfnadcmcoaaGreatDoorYaj
import Derived.Laws.ShiftsVar
import Derived.Laws.CopyRow
import Derived.Laws.IdiomCopy
import Derived.Deep.OwnRows
import Derived.LoopTactic
set_option maxRecDepth 100000
set_option maxHeartbeats 8000000
set_option linter.unusedVariables false
set_option linter.unusedSimpArgs false
namespace Go.Proofs.YtmkmpfnadcmcoaaGreatDoor.ShaPad
open Go Go.RowKit K RefCopy ArrKit HeldKit
def zs (n : Nat) : Nat := (119 - n % 64) % 64
def be8 (x : Nat) : List UInt8 := (List.range 8).map fun i => UInt8.ofNat (x / 2 ^ (56 - 8 * i))
def padOf (l : List UInt8) : List UInt8 := l ++ [128] ++ List.replicate (zs l.length) 0 ++ be8 (8 * l.length)
@[simp] theorem be8_length (x : Nat) : (be8 x).length = 8 := rfl
theorem padOf_length (l : List UInt8) : (padOf l).length = l.length + 1 + zs l.length + 8 := by simp [padOf];omega
theorem copy_sl {P : Program} (dT sT ty elem : TypeId) (g dLen dCap n c : Nat) (a : Option Addr) (l : List UInt8) (cur : Array Value) (t : TypeId) (w : World)
  (hu : P.underlying dT = some (.slice elem)) (hs : (P.info? elem).map (·.size) = some 1) (hb : Bk w g cur t) (hl : l.length = n) (hrd : Rd w a l) (hle : n ≤ dLen) (hfit : n ≤ cur.size) :
  (Builtin.copy_ #[dT, sT] ty #[.slice (some ⟨g, 0, none⟩) dLen dCap, .slice a n c]).run P w = .ok (goInt n) (w.setRow g (l.map B ++ cur.toList.drop n).toArray) := by
 by_cases h0 : n = 0
 ·have : l = [] := List.eq_nil_of_length_eq_zero (by omega)
  subst this
  subst h0
  rw [run_copy_none w dT sT ty elem _ a dLen dCap 0 c hu hs (by simp)]
  simp only [List.map_nil, List.nil_append, List.drop_zero, Array.toArray_toList]
  rw [setRow_self w g cur t (0, 0) hb]
  rfl
 ·obtain ⟨b, o, rfl, -, hc⟩ := hrd.form (by omega)
  have := run_copy_row (P := P) w dT sT ty elem g 0 dLen dCap ⟨b, o, none⟩ n c cur t (l.map B) hu hs hb (by rw [List.length_map, hl];exact (Nat.min_eq_left hle).symm) (fun j v hj => by
   rw [List.getElem?_map, Option.map_eq_some_iff] at hj
   obtain ⟨x, hx, rfl⟩ := hj
   obtain ⟨hj, hx⟩ := List.getElem?_eq_some_iff.1 hx
   rw [add_form, hc j hj, hx]) (by simp;omega) (fun v hv => by
   obtain ⟨x, -, rfl⟩ := List.mem_map.1 hv
   rfl)
  rw [this, List.length_map, hl, List.take_zero, List.nil_append, Nat.zero_add]
theorem pad_tail (l : List UInt8) (k T : Nat) (hk : k < 8) (hT : l.length + 1 + zs l.length + 8 = T) : ((padOf l).map B)[T - 1 - k]? = some (.int .u8 ((l.length * 8 / 2 ^ (8 * k) % 256 : Nat) : Int)) := by
 rw [padOf, List.map_append, List.getElem?_append_right (by simp;omega), be8]
 simp only [List.length_map, List.length_append, List.length_replicate, List.length_singleton, List.getElem?_map]
 rw [show T - 1 - k - (l.length + 1 + zs l.length) = 7 - k by omega, List.getElem?_range (by omega)]
 simp only [Option.map_some, B_ofNat]
 rw [show 56 - 8 * (7 - k) = 8 * k by omega, Nat.mul_comm 8]
theorem pad_calls (a : Option Addr) (n c : Nat) (l : List UInt8) (w : World) (hl : l.length = n) (hrd : Rd w a l) (hn : n ≤ 140737488351232) :
  Calls Tryz.prog 83 #[.slice a n c] w (CopyPost (padOf l).length (padOf l) w) := by
 obtain ⟨i8, hi, hz0, hz1, hz2⟩ := info_parts info8
 have HI := jq7 hi
 have HZ : Jq7 (i8.zero = some (.int .u8 0) ∧ i8.size = 1 ∧ i8.bytes = 1) := jq7 ⟨hz0, hz1, hz2⟩
 clear hi hz0 hz1 hz2
 have HL := jq7 hl
 have HR := jq7 hrd
 clear hl hrd
 obtain ⟨z, hz⟩ : ∃ z, zs n = z := ⟨_, rfl⟩
 have HZS := jq7 hz
 have hz64 : z < 64 := by rw [← hz];exact Nat.mod_lt _ (by decide)
 have hm : n % 64 < 64 := Nat.mod_lt _ (by decide)
 have e2 : (119 - (n : Int) % 64) % 64 = (z : Int) := by rw [← hz, zs];omega
 obtain ⟨T, hT⟩ : ∃ T, n + 1 + z + 8 = T := ⟨_, rfl⟩
 have e3 : (n : Int) + 1 + z + 8 = (T : Int) := by omega
 have HT := jq7 hT
 have hTn : n < T := by omega
 have hTm : T ≤ 140737488351400 := by omega
 clear hT
 obtain ⟨G, hG⟩ : ∃ G, w.heap.size = G := ⟨_, rfl⟩
 have HG := jq7 hG
 have hb1 : Bk (w.alloc (.cells (madeCells #[.int .u8 0] T) 5)) G (madeCells #[.int .u8 0] T) 5 := hG ▸ Bk.new w _
 have hs1 : (w.alloc (.cells (madeCells #[.int .u8 0] T) 5)).heap.size = G + 1 := by rw [← hG];simp
 have hf1 : Fr0 w (w.alloc (.cells (madeCells #[.int .u8 0] T) 5)) := Fr.alloc (Fr.refl _ _) _
 have hr1 := HR.o.later hf1 (fun _ _ h => h)
 have hcs : (madeCells #[.int .u8 0] T).size = T := size_madeCells _ _
 have hcz : ∀ j, j < T → (madeCells #[.int .u8 0] T)[j]? = some (.int .u8 0) := fun j hj => by simp [madeCells, hj, Nat.mod_one]
 generalize hZc : madeCells #[.int .u8 0] T = Zc at *
 have HZc := jq7 hZc
 generalize hw1 : w.alloc (.cells Zc 5) = w1 at *
 have HC : Jq7 (∀ ty, (Builtin.copy_ #[93, 93] ty #[.slice (some ⟨G, 0, none⟩) T T, .slice a n c]).run Tryz.prog w1 = .ok (goInt n) (w1.setRow G (l.map B ++ Zc.toList.drop n).toArray)) := jq7 fun ty =>
  copy_sl 93 93 ty 5 G T T n c a l Zc 5 w1 Tryz.underlying93 (by kernel_rfl) hb1 HL.o hr1 (by omega) (by omega)
 have hb2 := ArrKit.Bk.row hb1 (l.map B ++ Zc.toList.drop n).toArray
 have hf2 := ArrKit.Fr.row hf1 G (l.map B ++ Zc.toList.drop n).toArray (.inl (by omega))
 have hc2s : (l.map B ++ Zc.toList.drop n).toArray.size = T := by simp [HL.o, hcs];omega
 have hc2 : ∀ j, j < T → (l.map B ++ Zc.toList.drop n).toArray[j]? = if j < n then (l.map B)[j]? else some (.int .u8 0) := fun j hj => by
  rw [List.getElem?_toArray, List.getElem?_append, List.length_map, HL.o]
  split
  ·rfl
  ·rw [List.getElem?_drop, show n + (j - n) = j by omega, Array.getElem?_toList]
   exact hcz j hj
 generalize (l.map B ++ Zc.toList.drop n).toArray = C2 at *
 generalize hw2 : w1.setRow G C2 = w2 at *
 have hcl2 : ∃ v, w2.cell? ⟨G, n, none⟩ = some v := ⟨_, (hb2.cell n).trans (Array.getElem?_eq_getElem (by omega))⟩
 obtain ⟨v2, hv2⟩ := hcl2
 have hz2 := hb2.free n
 have HB2 := jq7 hb2
 have HF2 := jq7 hf2
 have HC2 := jq7 hc2
 have HC2s := jq7 hc2s
 clear hb1 hs1 hf1 hr1 hcs hcz hb2 hf2 hc2 hc2s hz
 go_enter Tryz.func83, Tryz.ntmps83
 go_wp2_with (first | (at_make;refine wpList_make_row _ rfl _ _ 93 rfl 5 i8 (.int .u8 0) Tryz.underlying93 HI.o HZ.o.1 HZ.o.2.1 rfl .i64 .i64 T rfl rfl (by rw [HZ.o.2.2];omega) (by omega) ?_;rw [HZc.o]) | (simp only [hG, hw1, HC.o]))
 go_loopw [30] (fun i wr => ∃ k : Nat, k ≤ 8 ∧ i = .int .i64 k ∧ ∃ cur, Bk wr G cur 5 ∧ cur.size = T ∧ (∀ j, j < T → cur[j]? = if j < T - 8 ∨ T - k ≤ j then ((padOf l).map B)[j]? else some (.int .u8 0)) ∧ Fr0 w wr) (fun i _ => 8 - (intOf i).toNat)
 case atStart =>
  refine ⟨0, by omega, rfl, C2.setIfInBounds n (.int .u8 128), HB2.o.set n _, by simp [HC2s.o], fun j hj => ?_, HF2.o.set _ _ (.inl (by have := HG.o;simp;omega))⟩
  have hT := HT.o
  have hL := HL.o
  rw [Array.getElem?_setIfInBounds, HC2.o j hj, padOf]
  simp only [List.map_append, List.append_assoc, Nat.sub_zero, List.map_replicate]
  by_cases h1 : j < n
  ·rw [if_neg (by omega), if_pos h1, if_pos (by omega), List.getElem?_append_left (by simp;omega)]
  ·by_cases h2 : n = j
   ·rw [if_pos h2, if_pos (by rw [HC2s.o];omega), if_pos (by omega), List.getElem?_append_right (by simp;omega)]
    simp [hL, ← h2, B]
   ·rw [if_neg h2, if_neg h1]
    split
    ·rename_i h3
     have hz' : zs l.length = z := by rw [hL];exact HZS.o
     rw [List.getElem?_append_right (by simp;omega), List.getElem?_append_right (by simp;omega), List.getElem?_append_left (by simp [hz'];omega)]
     rw [List.getElem?_replicate, if_pos (by simp [hz'];omega)]
     rfl
    ·rfl
 case round =>
  obtain ⟨k, hk, rfl, cur, hbk, hcs, hcc, hfr⟩ := hrel
  have LB := jq7 hbk
  have LS := jq7 hcs
  have LC := jq7 hcc
  have LF := jq7 hfr
  clear hbk hcs hcc hfr HB2 HF2 HC2 HC2s hv2 hz2
  by_cases hlt : k < 8
  rotate_left
  ·have cz : decide ((k : Int) < 8) = false := decide_eq_false (by omega)
   obtain rfl : k = 8 := by omega
   go_wp2
   go_ret
   have hT := HT.o
   have hpl : (padOf l).length = T := by rw [padOf_length, HL.o, HZS.o];exact hT
   have hmx := hTm
   refine ⟨G, T, cur, by rw [hpl];rfl, by have := HG.o;omega, ⟨LB.o, rfl, by rw [hpl];exact Nat.le_refl _, LS.o, by omega, fun i hi => ?_⟩, LF.o⟩
   rw [LC.o i (by omega), if_pos (by omega), List.getElem?_map, List.getElem?_eq_getElem hi]
   rfl
  ·have cz : decide ((k : Int) < 8) = true := decide_eq_true (by omega)
   have hix : T - 1 - k < T := by omega
   have hcl : wr.cell? ⟨G, T - 1 - k, none⟩ = some (.int .u8 0) := by
    rw [LB.o.cell, LC.o _ hix, if_neg (by omega)]
   have hfz := LB.o.free (T - 1 - k)
   have HV : Jq7 (((padOf l).map B)[T - 1 - k]? = some (.int .u8 (((n : Int) * 8 / 2 ^ (8 * k)) % 256))) := jq7 (by
    rw [pad_tail l k T (by omega) (by rw [HL.o, HZS.o];exact HT.o), HL.o]
    norm_cast)
   go_wp2
   refine ⟨⟨k + 1, by omega, by go_num, cur.setIfInBounds (T - 1 - k) _, LB.o.set _ _, by simp [LS.o], fun j hj => ?_, LF.o.set _ _ (.inl (by have := HG.o;simp;omega))⟩, by simp [intOf];omega⟩
   rw [Array.getElem?_setIfInBounds]
   by_cases h1 : T - 1 - k = j
   ·rw [if_pos h1, if_pos (by rw [LS.o];omega), if_pos (by omega), ← h1]
    exact HV.o.symm
   ·rw [if_neg h1, LC.o j hj]
    by_cases h2 : j < T - 8 ∨ T - k ≤ j
    ·rw [if_pos h2, if_pos (by omega)]
    ·rw [if_neg h2, if_neg (by omega)]

theorem own_row {w : World} {g n cap base : Nat} {cur : Array Value} {l : List UInt8} (h : Own w g n cap cur l) (hb : base ≤ g) : w.ownsRow base 5 1 (.slice (some ⟨g, 0, none⟩) n cap) n (l.map B) := by
 refine ⟨by simp [h.len], .inr ⟨g, cap, cur, rfl, hb, h.blk, h.room, h.cap, by rw [h.size, Nat.mul_one], ?_⟩⟩
 apply List.ext_getElem?
 intro i
 rw [List.getElem?_take, Nat.mul_one]
 by_cases hi : i < n
 ·rw [if_pos hi, Array.getElem?_toList, h.here i (by rw [h.len];exact hi), List.getElem?_map, List.getElem?_eq_getElem (by rw [h.len];exact hi)]
  rfl
 ·rw [if_neg hi, List.getElem?_eq_none (by simp [h.len];omega)]
theorem own_of_row {w : World} {g n cap base : Nat} {l : List UInt8} (h : w.ownsRow base 5 1 (.slice (some ⟨g, 0, none⟩) n cap) n (l.map B)) : ∃ cur, Own w g n cap cur l ∧ base ≤ g := by
 obtain ⟨h1, h2⟩ := h
 rcases h2 with ⟨h2, -⟩ | ⟨g', cap', cur, e, hge, hbk, hcap, hmax, hsz, htake⟩
 ·cases h2
 simp only [Value.slice.injEq, Option.some.injEq, Addr.mk.injEq, and_true, true_and] at e
 obtain ⟨rfl, rfl⟩ := e
 have hl : l.length = n := by simpa using h1
 refine ⟨cur, ⟨hbk, hl, hcap, by omega, hmax, fun i hi => ?_⟩, hge⟩
 have h3 : (cur.toList.take n)[i]? = some (B l[i]) := by
  rw [Nat.mul_one] at htake
  rw [htake];simp [hi]
 rw [List.getElem?_take] at h3
 split at h3
 ·rwa [Array.getElem?_toList] at h3
 ·cases h3
theorem fr_grown {w w1 w2 : World} {r : Option Nat} (h : Fr0 w w1) (hg : w1.grownBy w2 r) (hr : ∀ g, r = some g → w.heap.size ≤ g) : Fr0 w w2 := by
 refine h.then (S' := fun g => r = some g) ⟨hg.os, hg.tape, hg.output, hg.size, fun i hi hn => hg.block i hi (fun e => hn e.symm)⟩ (fun i hi e => ?_)
 have := hr i e
 omega
theorem wpList_app1 {ops : Array Oper} {rest : List Oper} {o : Oper} {a : Act} {Q : Exit → Act → World → Prop} {w : World} {vv : Value} (hgd : o.guard = none) (s x : Operand) (ho : o.op = .call { callee := .builtin .append, args := #[s, x], argTypes := #[93, 93] })
  (base g n cap : Nat) (cur : Array Value) (l : List UInt8) (v : UInt8) (hv : vv = B v) (hs : a.eval s = .slice (some ⟨g, 0, none⟩) n cap) (hx : a.eval x = .slice (some ⟨w.heap.size, 0, none⟩) 1 1)
  (hown : Own w g n cap cur l) (hb : base ≤ g) (hbs : base ≤ w.heap.size) (hn : n < 140737488355328)
  (h : ∀ g' cap' cur' w', Own w' g' (n + 1) cap' cur' (l ++ [v]) → base ≤ g' → (w.alloc (.cells #[vv] 5)).grownBy w' (some g) → wpList Tryz.prog ops Q rest (a.put o.dst (.slice (some ⟨g', 0, none⟩) (n + 1) cap')) w') :
  wpList Tryz.prog ops Q (o :: rest) a (w.alloc (.cells #[vv] 5)) := by
 obtain ⟨i8, hi, hz0, hz1, hz2⟩ := info_parts info8
 have h2 : Own (w.alloc (.cells #[vv] 5)) g n cap cur l := ⟨Bk.alloc hown.blk _, hown.len, hown.room, hown.size, hown.cap, hown.here⟩
 refine wpList_append_lies _ hgd s x 93 ho base 5 i8 (.int .u8 0) 1 1 Tryz.underlying93 hi hz0 hz1 hz2 rfl (by omega) _ n (l.map B) hs (own_row h2 hb) ⟨w.heap.size, 0, none⟩ 1 1 [vv] hx rfl (fun j u hj => ?_) (fun u hu => ?_) (by omega) (by unfold maxLen;omega) (by omega) (by simp;omega) (w.heap.size + 1) (by simp) ?_
 ·match j, hj with
  | 0, hj =>
   rw [add_form, (show Bk (w.alloc (.cells #[vv] 5)) w.heap.size #[vv] 5 from Bk.new w _).cell]
   simpa using hj
 ·rw [List.mem_singleton] at hu
  subst hu
  rw [hv]
  rfl
 ·intro g' cap' w' hown' hgrow hat hlt
  rw [show l.map B ++ [vv] = (l ++ [v]).map B by rw [hv];simp] at hown'
  obtain ⟨cur', ho', hb'⟩ := own_of_row hown'
  exact h g' cap' cur' w' ho' hb' hgrow
def slen : Value → Nat
 | .slice _ n _ => n
 | _ => 0
theorem fr_app {w w1 w2 : World} {o : Obj} {g : Nat} (h : Fr0 w w1) (hg : (w1.alloc o).grownBy w2 (some g)) (hr : w.heap.size ≤ g) : Fr0 w w2 :=
 fr_grown (Fr.alloc h o) hg (fun g' e => by cases e;exact hr)
theorem rpad_calls (a : Option Addr) (n c : Nat) (l : List UInt8) (w : World) (hl : l.length = n) (hrd : Rd w a l) (hn : n ≤ 140737488351232) :
  Calls Tryz.prog 91 #[.slice a n c] w (CopyPost (padOf l).length (padOf l) w) := by
 have HL := jq7 hl
 have HR := jq7 hrd
 clear hl hrd
 obtain ⟨z, hz⟩ : ∃ z, zs n = z := ⟨_, rfl⟩
 have HZS := jq7 hz
 have hz64 : z < 64 := by rw [← hz];exact Nat.mod_lt _ (by decide)
 have HZN : Jq7 (z = (119 - n % 64) % 64) := jq7 hz.symm
 clear hz
 go_enter Tryz.func91, Tryz.ntmps91
 go_wp2_with (first | (at_builtin;refine wpList_app1 rfl _ _ rfl w.heap.size g0 n cap0 cur0 l 128 rfl rfl rfl HO0.o HG0.o (Nat.le_trans HG0.o (Nat.le_of_lt (Bk.lt HO0.o.blk))) (by omega) ?_;intro g1 cap1 cur1 w2 hown1 hge1 hgr1;have HO1 := jq7 hown1;have HG1 := jq7 hge1;have HF1 := jq7 (fr_app HF0.o hgr1 HG0.o);clear hown1 hge1 hgr1) | (go_at_call 102;(with_reducible refine (copy_calls a n c l _ HL.o HR.o hn).mono ?_);rintro e w1 ⟨g0, cap0, cur0, rfl, hge0, hown0, hfr0⟩;have HO0 := jq7 hown0;have HF0 := jq7 hfr0;have HG0 := jq7 hge0;clear hown0 hfr0 hge0))
 go_loopw [3] (fun v wr => ∃ k g cap cur m, k ≤ z ∧ m = n + 1 + k ∧ v = .slice (some ⟨g, 0, none⟩) m cap ∧ w.heap.size ≤ g ∧ Own wr g m cap cur (l ++ [128] ++ List.replicate k 0) ∧ Fr0 w wr) (fun v _ => n + 1 + z - slen v)
 case atStart => exact ⟨0, g1, cap1, cur1, n + 1, by omega, rfl, rfl, HG1.o, by simpa using HO1.o, HF1.o⟩
 case round =>
  obtain ⟨k, g, cap, cur, m, hk, hm, rfl, hge, hown, hfr⟩ := hrel
  have LO := jq7 hown
  have LF := jq7 hfr
  have LG := jq7 hge
  have HM := jq7 hm
  clear hown hfr hge HO1 HG1 HF1 HO0 HF0 HG0
  have hm0 : m < 140737488355328 := by omega
  by_cases hlt : k < z
  rotate_left
  ·have cz : ((m : Int) % 64 == 56) = true := by
    have := HZN.o
    rw [beq_iff_eq]
    omega
   have LO2 : Jq7 (Own wr g m cap cur (l ++ [128] ++ List.replicate z 0)) := jq7 (by
    have e : k = z := by omega
    subst e
    exact LO.o)
   have hmz : Jq7 (m = n + 1 + z) := jq7 (by omega)
   clear LO hm hlt
   go_wp2
   generalize ((m : Int) % 64 != 56) = bb
   go_loopw [3, 5] (fun v s wr => ∃ k g cap cur m, k ≤ 8 ∧ m = n + 1 + z + k ∧ v = .slice (some ⟨g, 0, none⟩) m cap ∧ s = .int .i64 (56 - 8 * (k : Int)) ∧ w.heap.size ≤ g ∧ Own wr g m cap cur (l ++ [128] ++ List.replicate z 0 ++ (be8 (8 * n)).take k) ∧ Fr0 w wr) (fun v _ _ => n + 1 + z + 8 - slen v)
   case atStart => exact ⟨0, g, cap, cur, m, by omega, hmz.o, rfl, rfl, LG.o, by simpa using LO2.o, LF.o⟩
   case round =>
    obtain ⟨k, g, cap, cur, m, hk, hm, rfl, rfl, hge, hown, hfr⟩ := hrel
    have MO := jq7 hown
    have MF := jq7 hfr
    have MG := jq7 hge
    have MM := jq7 hm
    clear hown hfr hge LO2 LF LG hmz
    have hm1 : m < 140737488355328 := by omega
    clear hm cz
    by_cases hlt : k < 8
    rotate_left
    ·have cz : decide ((0 : Int) ≤ 56 - 8 * (k : Int)) = false := decide_eq_false (by omega)
     have MP : Jq7 (Own wr g m cap cur (padOf l) ∧ (padOf l).length = m) := jq7 (by
      have e : k = 8 := by omega
      subst e
      have hp : padOf l = l ++ [128] ++ List.replicate z 0 ++ (be8 (8 * n)).take 8 := by
       rw [padOf, HL.o, HZS.o, List.take_of_length_le (by simp)]
      refine ⟨hp ▸ MO.o, ?_⟩
      rw [padOf_length, HL.o, HZS.o, MM.o])
     go_wp2
     go_ret
     exact ⟨g, cap, cur, by rw [MP.o.2];rfl, MG.o, by rw [MP.o.2];exact MP.o.1, MF.o⟩
    ·have cz : decide ((0 : Int) ≤ 56 - 8 * (k : Int)) = true := decide_eq_true (by omega)
     obtain ⟨t, ht⟩ : ∃ t, 56 - 8 * k = t := ⟨_, rfl⟩
     have hti : (56 - 8 * (k : Int)) = (t : Int) := by omega
     have HTT := jq7 ht
     have HTI := jq7 hti
     rw [hti] at cz
     rw [hti]
     have ht64 : t < 64 := by omega
     clear ht hti
     have HVV : Jq7 (Value.int .u8 (8 * (n : Int) / 2 ^ t % 256) = B ((be8 (8 * n))[k]'(by simp;omega))) := jq7 (by
      simp only [be8, List.getElem_map, List.getElem_range, B_ofNat]
      rw [HTT.o]
      norm_cast)
     go_wp2_with (at_builtin;refine wpList_app1 rfl _ _ rfl w.heap.size g m cap cur _ _ HVV.o rfl rfl MO.o MG.o (Nat.le_trans MG.o (Nat.le_of_lt (Bk.lt MO.o.blk))) (by omega) ?_;intro g2 cap2 cur2 w3 hown2 hge2 hgr2;have HO2 := jq7 hown2;have HG2 := jq7 hge2;have HF2 := jq7 (fr_app MF.o hgr2 MG.o);clear hown2 hge2 hgr2)
     refine ⟨⟨k + 1, g2, cap2, cur2, m + 1, by omega, by have := MM.o;omega, rfl, congrArg (Value.int .i64) (by have := HTI.o;omega), HG2.o, ?_, HF2.o⟩, by have := MM.o;simp [slen];omega⟩
     have := HO2.o
     rwa [List.append_assoc, ← List.take_succ_eq_append_getElem] at this
  ·have cz : ((m : Int) % 64 == 56) = false := by
    have := HZN.o
    rw [beq_eq_false_iff_ne]
    omega
   clear hm
   go_wp2_with (at_builtin;refine wpList_app1 rfl _ _ rfl w.heap.size g m cap cur _ 0 rfl rfl rfl LO.o LG.o (Nat.le_trans LG.o (Nat.le_of_lt (Bk.lt LO.o.blk))) (by omega) ?_;intro g2 cap2 cur2 w3 hown2 hge2 hgr2;have HO2 := jq7 hown2;have HG2 := jq7 hge2;have HF2 := jq7 (fr_app LF.o hgr2 LG.o);clear hown2 hge2 hgr2)
   refine ⟨⟨k + 1, g2, cap2, cur2, m + 1, by omega, by have := HM.o;omega, rfl, HG2.o, ?_, HF2.o⟩, by have := HM.o;simp [slen];omega⟩
   have := HO2.o
   rwa [List.append_assoc, ← List.replicate_succ'] at this

end Go.Proofs.YtmkmpfnadcmcoaaGreatDoor.ShaPad
namespace Go.Proofs.YtmkmpfnadcmcoaaGreatDoor.ShaSum
open Go Go.RowKit K ShaRot ArrKit ShaSpread ShaStep ShaRef RefCopy ShaPad HeldKit
theorem wpStill_load_row {P : Program} {ops : Array Oper} {rest : List Oper} {o : Oper} {a : Act} {w : World} {Q : Act → Prop} (hgd : o.guard = none) (ty : TypeId) (x : Operand) (ho : o.op = .load ty x)
  (g : Nat) (hx : a.eval x = .pointer (some ⟨g, 0, none⟩)) (t : TypeId) (cs : Array Value) (fr : Nat × Nat) (d : TypeDesc) (hg : w.heap[g]? = some (.cells cs t fr))
  (hu : P.underlying ty = some d) (hd : (match d with | .struct _ | .array _ _ => true | _ => false) = true) (hi : (P.info? ty).map (·.size) = some cs.size)
  (h : wpStill P ops w Q rest (a.put o.dst (.agg cs))) : wpStill P ops w Q (o :: rest) a := by
 have hw : Region.wanted o (yielded ops a.tmps) = true := by simp [Region.wanted, hgd]
 rw [wpStill, if_pos hw]
 unfold Oper.still execOp
 simp only [ho, hx, Instr.loadAt, Instr.sureAddr, Sem.run_bind, Sem.run_pure, Result.andThen_ok, run_loadVar_row w g t ty cs fr d hg hu hd hi, Oper.stillUpon]
 exact ⟨trivial, h⟩
theorem wpStill_load_mid {P : Program} {ops : Array Oper} {rest : List Oper} {op : Oper} {a : Act} {w : World} {Q : Act → Prop} (hgd : op.guard = none) (ty : TypeId) (x : Operand) (ho : op.op = .load ty x)
  (b o : Nat) (hx : a.eval x = .pointer (some ⟨b, o, none⟩)) (cs : List Value) (d : TypeDesc) (hc : w.rangeAt b o cs)
  (hu : P.underlying ty = some d) (hd : d.isRow = true) (hi : (P.info? ty).map (·.size) = some cs.length)
  (h : wpStill P ops w Q rest (a.put op.dst (.agg cs.toArray))) : wpStill P ops w Q (op :: rest) a := by
 have hw : Region.wanted op (yielded ops a.tmps) = true := by simp [Region.wanted, hgd]
 rw [wpStill, if_pos hw]
 unfold Oper.still execOp
 simp only [ho, hx, Instr.loadAt, Instr.sureAddr, Sem.run_bind, Sem.run_pure, Result.andThen_ok, run_loadVar_mid w b o ty cs d hc hu hd hi, Oper.stillUpon]
 exact ⟨trivial, h⟩
theorem bval {l : List UInt8} {i n : Nat} {z : Int} (h : l[i]? = some (UInt8.ofNat n)) (hi : i < (l.map B).length) (hz : ((n % 256 : Nat) : Int) = z) : (l.map B)[i] = .int .u8 z := by
 obtain ⟨h1, h2⟩ := List.getElem?_eq_some_iff.1 h
 rw [List.getElem_map, h2, B_ofNat, hz]
theorem lay_next {vs : List Value} (j : Nat) (hj : j < vs.length) (v : Value) (hv : vs[j] = v) (cs : Array Value) : lay cs 0 (vs.take (j + 1)) = (lay cs 0 (vs.take j)).setIfInBounds j v := by
 rw [lay_take hj, hv, Nat.zero_add]
theorem S8.at_lt {s : S8} (h : s.ok) (k : Nat) : at0 s.list k < 4294967296 := by
 obtain ⟨h1, h2, h3, h4, h5, h6, h7, h8⟩ := h
 match k with
 | 0 => exact h1
 | 1 => exact h2
 | 2 => exact h3
 | 3 => exact h4
 | 4 => exact h5
 | 5 => exact h6
 | 6 => exact h7
 | 7 => exact h8
 | _ + 8 => simp [at0, S8.list]
theorem info32a : (Tryz.prog.info? 29).map (·.size) = some 32 := by kernel_rfl
def Z32 : Array Value := #[.int .u8 0, .int .u8 0, .int .u8 0, .int .u8 0, .int .u8 0, .int .u8 0, .int .u8 0, .int .u8 0, .int .u8 0, .int .u8 0, .int .u8 0, .int .u8 0, .int .u8 0, .int .u8 0, .int .u8 0, .int .u8 0, .int .u8 0, .int .u8 0, .int .u8 0, .int .u8 0, .int .u8 0, .int .u8 0, .int .u8 0, .int .u8 0, .int .u8 0, .int .u8 0, .int .u8 0, .int .u8 0, .int .u8 0, .int .u8 0, .int .u8 0, .int .u8 0]
def blockAt (p : List UInt8) (i : Nat) : List UInt8 := (p.drop (64 * i)).take 64
def run (p : List UInt8) : Nat → S8
 | 0 => begins
 | i + 1 => stepOf (run p i) (blockAt p i)
theorem begins_ok : begins.ok := by refine ⟨?_, ?_, ?_, ?_, ?_, ?_, ?_, ?_⟩ <;> decide
theorem run_ok (p : List UInt8) (i : Nat) : (run p i).ok := by
 cases i with
 | zero => exact begins_ok
 | succ i => exact stepOf_ok _ _
def sumOf (l : List UInt8) : List UInt8 := (List.range 32).map fun j => UInt8.ofNat (at0 (run (padOf l) ((padOf l).length / 64)).list (j / 4) / 2 ^ (24 - 8 * (j % 4)))
theorem sumOf_length (l : List UInt8) : (sumOf l).length = 32 := by simp [sumOf]
theorem sum_calls (a : Option Addr) (n c : Nat) (l : List UInt8) (w : World) (hl : l.length = n) (hrd : Rd w a l) (hn : n ≤ 140737488351232) {tk tb : TypeId} (hK : Bk w 1 KC tk) (hB : Bk w 0 HB8 tb) :
  Calls Tryz.prog 57 #[.slice a n c] w fun e w' => e = .returned (.agg ((sumOf l).map B).toArray) ∧ Fr0 w w' := by
 have HL := jq7 hl
 have HR := jq7 hrd
 have HK := jq7 hK
 have HB := jq7 hB
 clear hl hrd hK hB
 have hsz : ((w.alloc (.cells Z32 29)).alloc (.cells Z8 112)).heap.size = w.heap.size + 1 + 1 := by simp
 have hb0 : Bk (w.alloc (.cells Z32 29)) 0 HB8 tb := Bk.alloc HB.o _
 have HB1 := jq7 hb0
 have HN2 : Jq7 (Bk ((w.alloc (.cells Z32 29)).alloc (.cells Z8 112)) (w.heap.size + 1) Z8 112) := jq7 (by
  have := Bk.new (w.alloc (.cells Z32 29)) (.cells Z8 112)
  rwa [show (w.alloc (.cells Z32 29)).heap.size = w.heap.size + 1 by simp] at this)
 have hlt := Bk.lt HB.o
 have GH : Jq7 (Bk (((w.alloc (.cells Z32 29)).alloc (.cells Z8 112)).setRow (w.heap.size + 1) HB8) (w.heap.size + 1) HB8 112) := jq7 (ArrKit.Bk.row HN2.o _)
 have GR : Jq7 (Bk (((w.alloc (.cells Z32 29)).alloc (.cells Z8 112)).setRow (w.heap.size + 1) HB8) w.heap.size Z32 29) := jq7 (ArrKit.Bk.rowOther (Bk.alloc (Bk.new _ _) _) _ (by omega))
 have GK : Jq7 (Bk (((w.alloc (.cells Z32 29)).alloc (.cells Z8 112)).setRow (w.heap.size + 1) HB8) 1 KC tk) := jq7 (ArrKit.Bk.rowOther (Bk.alloc (Bk.alloc HK.o _) _) _ (by omega))
 have GF : Jq7 (Fr0 w (((w.alloc (.cells Z32 29)).alloc (.cells Z8 112)).setRow (w.heap.size + 1) HB8)) := jq7 (ArrKit.Fr.row (Fr.alloc (Fr.alloc (Fr.refl _ _) _) _) _ _ (.inl (by omega)))
 clear hb0 hsz
 generalize hw2 : ((w.alloc (.cells Z32 29)).alloc (.cells Z8 112)).setRow (w.heap.size + 1) HB8 = w2 at *
 have GL := jq7 (HR.o.later GF.o (fun _ _ h => h))
 go_enter Tryz.func57, Tryz.ntmps57
 go_wp2_with (first | (refine wpList_load_row rfl 112 _ rfl 0 rfl tb HB8 (0, 0) _ HB1.o Tryz.underlying112 rfl (by kernel_rfl) ?_) | (refine wpList_store_row rfl 112 _ _ rfl (w.heap.size + 1) HB8 rfl rfl 112 Z8 HN2.o (by kernel_rfl) rfl (by kernel_rfl) ?_;change wpList _ _ _ _ _ (((w.alloc (.cells Z32 29)).alloc (.cells Z8 112)).setRow (w.heap.size + 1) HB8);rw [hw2]) | (go_at_call 83;(with_reducible refine (pad_calls a n c l _ HL.o GL.o hn).mono ?_);rintro e w3 ⟨g, cap, cur, rfl, hge, hown, hfr⟩;have HO := jq7 hown;have HF := jq7 hfr;have HGE := jq7 hge;clear hown hfr hge))
 have HPO := HO.o
 generalize hp : padOf l = p at *
 generalize hT : p.length = T at *
 have HP := jq7 hp
 have HT := jq7 hT
 have h64 : T % 64 = 0 := by
  rw [← hT, ← hp, padOf_length, zs];omega
 have hTm : T ≤ 140737488351400 := by
  have := HL.o
  rw [← hT, ← hp, padOf_length, zs];omega
 have HTc : Jq7 (T ≤ cap ∧ cap ≤ 9223372036854775807) := jq7 ⟨HO.o.room, HO.o.cap⟩
 have KH : Jq7 (Bk w3 (w.heap.size + 1) HB8 112) := jq7 (HF.o.keep GH.o (fun h => h))
 have KR : Jq7 (Bk w3 w.heap.size Z32 29) := jq7 (HF.o.keep GR.o (fun h => h))
 have KK : Jq7 (Bk w3 1 KC tk) := jq7 (HF.o.keep GK.o (fun h => h))
 have KF : Jq7 (Fr0 w w3) := jq7 (GF.o.then0 HF.o)
 have hszs : w2.heap.size = w.heap.size + 1 + 1 := by rw [← hw2];simp
 have HG2 : Jq7 (w.heap.size + 1 < g) := jq7 (by have := HGE.o;omega)
 clear HPO hszs hw2 hp hT HN2 HB1 GL HB HK HGE HF GF GK GR GH
 go_loopw [4] (fun v wr => ∃ i A, 64 * i ≤ T ∧ v = .slice A (T - 64 * i) (cap - 64 * i) ∧ (64 * i < T → A = some ⟨g, 64 * i, none⟩) ∧ Bk wr (w.heap.size + 1) ((run p i).list.map U).toArray 112 ∧ Bk wr w.heap.size Z32 29 ∧ Bk wr 1 KC tk ∧ Own wr g T cap cur p ∧ Fr0 w wr) (fun v _ => slen v)
 case atStart => exact ⟨0, _, by omega, rfl, fun _ => rfl, KH.o, KR.o, KK.o, HO.o, KF.o⟩
 case round =>
  obtain ⟨i, A, hi, rfl, hA, hbh, hbr, hbk, hown, hfr⟩ := hrel
  have LH := jq7 hbh
  have LR := jq7 hbr
  have LK := jq7 hbk
  have LO := jq7 hown
  have LF := jq7 hfr
  have HI := jq7 hi
  clear hbh hbr hbk hown hfr KH KR KK KF HO
  have HTC := HTc.o
  by_cases hlt : 64 * i < T
  rotate_left
  ·have cz : decide (0 < (T - 64 * i : Nat)) = false := decide_eq_false (by omega)
   obtain ⟨m, hm⟩ : ∃ m, T - 64 * i = m := ⟨_, rfl⟩
   rw [hm] at cz
   rw [hm]
   obtain ⟨cc, hcc⟩ : ∃ c, cap - 64 * i = c := ⟨_, rfl⟩
   rw [hcc]
   have e64 : T / 64 = i := by omega
   have HSO : Jq7 (sumOf l = (List.range 32).map fun j => UInt8.ofNat (at0 (run p i).list (j / 4) / 2 ^ (24 - 8 * (j % 4)))) := jq7 (by rw [sumOf, HP.o, HT.o, e64])
   clear hm hcc hA hi HTC e64
   have LRO := run_ok p i
   generalize run p i = r at *
   have HR8 : Jq7 (∀ k, k < 8 → (r.list.map U).toArray[k]? = some (.int .u32 (at0 r.list k : Nat))) := jq7 (fun k hk => list_cell r k hk)
   have HRS : Jq7 ((r.list.map U).toArray.size = 8) := jq7 (by simp [S8.list])
   have HRL : Jq7 (∀ k, at0 r.list k < 4294967296) := jq7 (fun k => S8.at_lt LRO k)
   clear LRO
   generalize (r.list.map U).toArray = hc at *
   generalize r.list = rl at *
   have LH1 : Jq7 (Bk (wr.alloc (.cells Z32 29)) (w.heap.size + 1) hc 112) := jq7 (Bk.alloc LH.o _)
   go_wp2_with (refine wpList_load_row rfl 112 _ rfl (w.heap.size + 1) rfl 112 hc (0, 0) _ LH1.o Tryz.underlying112 rfl (by rw [HRS.o];exact info8a) ?_)
   change Code.wp _ _ _ _ (wr.alloc (.cells Z32 29))
   have BS : Jq7 (Bk (wr.alloc (.cells Z32 29)) wr.heap.size Z32 29) := jq7 (Bk.new wr _)
   have BR : Jq7 (Bk (wr.alloc (.cells Z32 29)) w.heap.size Z32 29) := jq7 (Bk.alloc LR.o _)
   have BF : Jq7 (Fr0 w (wr.alloc (.cells Z32 29))) := jq7 (Fr.alloc LF.o _)
   have BL : Jq7 (w.heap.size < wr.heap.size) := jq7 (Bk.lt LR.o)
   clear LH LH1 LR LK LO LF
   generalize hSS : wr.heap.size = SS at *
   clear hSS
   generalize wr.alloc (.cells Z32 29) = w6 at *
   go_loopw [22] (fun i wq => ∃ k : Nat, k ≤ 8 ∧ i = .int .i64 k ∧ Bk wq SS (lay Z32 0 (((sumOf l).map B).take (4 * k))) 29 ∧ Bk wq w.heap.size Z32 29 ∧ Fr0 w wq) (fun i _ => 8 - (intOf i).toNat)
   case atStart => exact ⟨0, by omega, rfl, BS.o, BR.o, BF.o⟩
   case round =>
    obtain ⟨k, hk, rfl, hbs, hbr, hfr⟩ := hrel
    have CS := jq7 hbs
    have CR := jq7 hbr
    have CF := jq7 hfr
    clear hbs hbr hfr BS BR BF
    by_cases hlt8 : k < 8
    rotate_left
    ·have cz2 : decide ((k : Int) < 8) = false := decide_eq_false (by omega)
     have hlen : ((sumOf l).map B).length = 32 := by simp [sumOf_length]
     have LX : Jq7 (Bk wr SS ((sumOf l).map B).toArray 29) := jq7 (by
      have e : k = 8 := by omega
      subst e
      have := CS.o
      rwa [List.take_of_length_le (by rw [hlen];exact Nat.le_refl _), lay_full _ _ (by rw [hlen];rfl)] at this)
     have HLN := jq7 hlen
     have HI1 : Jq7 ((Tryz.prog.info? 29).map (·.size) = some (((sumOf l).map B).toArray.size)) := jq7 (by rw [info32a, List.size_toArray, hlen])
     have HI2 : Jq7 (Z32.size = ((sumOf l).map B).toArray.size) := jq7 (by rw [show (((sumOf l).map B).toArray).size = 32 by simp [sumOf_length]];rfl)
     have HI3 : Jq7 (((sumOf l).map B).toArray.all (·.oneCell') = true) := jq7 (by simp [B, Value.oneCell'])
     clear CS hlen
     go_wp2_with (first | (refine wpList_load_row rfl 29 _ rfl SS rfl 29 ((sumOf l).map B).toArray (0, 0) _ LX.o Tryz.underlying29 rfl HI1.o ?_) | (refine wpList_store_row rfl 29 _ _ rfl w.heap.size ((sumOf l).map B).toArray rfl rfl 29 Z32 CR.o HI1.o HI2.o HI3.o ?_))
     refine fin_c w.heap.size 29 ((sumOf l).map B).toArray (by rfl) (by rfl) (by rfl) Tryz.underlying29 (by rfl) (by rw [info32a, List.size_toArray, HLN.o]) (ArrKit.Bk.row CR.o _) ?_
     exact ⟨rfl, ArrKit.Fr.row CF.o _ _ (.inl (by omega))⟩
    ·have cz2 : decide ((k : Int) < 8) = true := decide_eq_true (by omega)
     have hidx := index_arr (P := Tryz.prog) wr Tryz.underlying112 (e := 111) (by kernel_rfl) (by kernel_rfl) hlt8 (HR8.o k hlt8)
     have hxl := HRL.o k
     have HV : Jq7 (∀ j, j < 4 → (sumOf l)[4 * k + j]? = some (UInt8.ofNat (at0 rl k / 2 ^ (24 - 8 * j)))) := jq7 (fun j hj => by
      rw [HSO.o, List.getElem?_map, List.getElem?_range (by omega), Option.map_some, show (4 * k + j) / 4 = k by omega, show (4 * k + j) % 4 = j by omega])
     generalize at0 rl k = x at *
     have hcell : ∀ j, j < 4 → ∃ v, wr.cell? ⟨SS, 4 * k + j, none⟩ = some v := fun j hj => ⟨_, (CS.o.cell (4 * k + j)).trans (Array.getElem?_eq_getElem (by rw [lay_size];show 4 * k + j < 32;omega))⟩
     obtain ⟨o0, q0⟩ := hcell 0 (by omega)
     obtain ⟨o1, q1⟩ := hcell 1 (by omega)
     obtain ⟨o2, q2⟩ := hcell 2 (by omega)
     obtain ⟨o3, q3⟩ := hcell 3 (by omega)
     rw [Nat.add_zero] at q0
     have z0 := CS.o.free (4 * k)
     have z1 := CS.o.free (4 * k + 1)
     have z2 := CS.o.free (4 * k + 2)
     have z3 := CS.o.free (4 * k + 3)
     have i0 : 4 * k < 32 := by omega
     have i1 : 4 * k + 1 < 32 := by omega
     have i2 : 4 * k + 2 < 32 := by omega
     have i3 : 4 * k + 3 < 32 := by omega
     clear hcell
     go_wp2_with fail
     have hlen : ((sumOf l).map B).length = 32 := by simp [sumOf_length]
     have hxi : (x : Int) < 4294967296 := by omega
     refine ⟨⟨k + 1, by omega, by go_num, ?_, Bk.setOther (Bk.setOther (Bk.setOther (Bk.setOther CR.o _ _ (by have := BL.o;simp;omega)) _ _ (by have := BL.o;simp;omega)) _ _ (by have := BL.o;simp;omega)) _ _ (by have := BL.o;simp;omega), (((CF.o.set _ _ (.inl (by have := BL.o;simp;omega))).set _ _ (.inl (by have := BL.o;simp;omega))).set _ _ (.inl (by have := BL.o;simp;omega))).set _ _ (.inl (by have := BL.o;simp;omega))⟩, by simp [intOf];omega⟩
     rw [show 4 * (k + 1) = 4 * k + 3 + 1 by omega, lay_next (4 * k + 3) (by omega) (.int .u8 ((x : Int) % 256)) (bval (HV.o 3 (by omega)) _ (by simp)),
      lay_next (4 * k + 2) (by omega) (.int .u8 ((x : Int) / 256 % 256)) (bval (HV.o 2 (by omega)) _ (by simp)),
      lay_next (4 * k + 1) (by omega) (.int .u8 ((x : Int) / 65536 % 256)) (bval (HV.o 1 (by omega)) _ (by simp)),
      lay_next (4 * k) (by omega) (.int .u8 ((x : Int) / 16777216)) (bval (HV.o 0 (by omega)) _ (by simp;omega))]
     exact Bk.set (Bk.set (Bk.set (Bk.set CS.o _ _) _ _) _ _) _ _
  ·obtain rfl := hA hlt
   obtain ⟨m, hm⟩ : ∃ m, T - 64 * i = m := ⟨_, rfl⟩
   obtain ⟨cc, hcc⟩ : ∃ c, cap - 64 * i = c := ⟨_, rfl⟩
   have cz : decide (0 < m) = true := decide_eq_true (by omega)
   have cy : decide (m < 64) = false := decide_eq_false (by omega)
   have hm64 : 64 ≤ m := by omega
   have hc64 : m ≤ cc := by omega
   rw [hm, hcc]
   have HM := jq7 hm
   have HCC := jq7 hcc
   have HBL : Jq7 ((blockAt p i).length = 64) := jq7 (by have := HT.o;rw [blockAt, List.length_take, List.length_drop];omega)
   have HRG : Jq7 (wr.drew.rangeAt g (64 * i) ((blockAt p i).map B)) := jq7 (fun j v hj => by
    rw [List.getElem?_map, Option.map_eq_some_iff] at hj
    obtain ⟨x, hx, rfl⟩ := hj
    obtain ⟨hj, hx⟩ := List.getElem?_eq_some_iff.1 hx
    have hj' := hj
    rw [HBL.o] at hj'
    have h2 := LO.o.here (64 * i + j) (by rw [LO.o.len];omega)
    refine (LO.o.blk.cell (64 * i + j)).trans (h2.trans ?_)
    congr 2
    rw [← hx]
    simp [blockAt])
   clear hm hcc hA HTC hi
   have hat : ∀ W : World, (Instr.arrayAt 115 (.slice (some ⟨g, 64 * i, none⟩) m cc)).run Tryz.prog W = .ok (.pointer (some ⟨g, 64 * i, none⟩)) W := fun W => by
    simp [Instr.arrayAt, run_underlying Tryz.underlying115, Nat.not_lt.2 hm64]
   go_wp2_with fail
   refine wp_region_still_tail 4 (by kernel_rfl) (by kernel_rfl) ?_
   simp only [List.take_succ_cons, List.take_zero, List.drop_succ_cons, List.drop_zero]
   refine wpStill_load_row rfl 112 _ rfl (w.heap.size + 1) rfl 112 ((run p i).list.map U).toArray (0, 0) _ LH.o Tryz.underlying112 rfl (by kernel_rfl) ?_
   still_step
   still_step
   refine wpStill_load_mid rfl 115 _ rfl g (64 * i) rfl ((blockAt p i).map B) _ HRG.o Tryz.underlying115 rfl (by rw [List.length_map, HBL.o];kernel_rfl) ?_
   refine wpStill_nil ?_
   have MK : Jq7 (Bk wr.drew 1 KC tk) := jq7 LK.o
   have MH : Jq7 (Bk wr.drew (w.heap.size + 1) _ 112) := jq7 LH.o
   have MR : Jq7 (Bk wr.drew w.heap.size Z32 29) := jq7 LR.o
   have MO : Jq7 (Own wr.drew g T cap cur p) := jq7 LO.o.drew
   have MF : Jq7 (Fr0 w wr.drew) := jq7 LF.o.drew
   clear LK LH LR LO LF HRG hat
   change wpList _ _ _ _ _ wr.drew
   generalize wr.drew = w4 at *
   have x1 : (64 : Int) ≤ m := by omega
   have x2 : (m : Int) ≤ cc := by omega
   by_cases hx : 64 < cc
   all_goals
    go_wp2_with (first | (go_at_call 84;(with_reducible refine (step_calls (run p i) (run_ok p i) (blockAt p i) _ HBL.o MK.o).mono ?_);rintro e w5 ⟨rfl, hf5⟩;have HF5 := jq7 hf5;have HH5 := kq0 hf5 MH;clear hf5) | (refine wpList_store_row rfl 112 _ _ rfl (w.heap.size + 1) ((stepOf (run p i) (blockAt p i)).list.map U).toArray rfl rfl 112 _ HH5.o (by simp only [List.size_toArray, List.length_map];exact info8a) (by simp [S8.list]) (by simp [U, S8.list, Value.oneCell']) ?_))
   case roundEnd =>
    have hm := HM.o
    have hcc := HCC.o
    have hG := HG2.o
    refine ⟨⟨i + 1, some ⟨g, 64 * i + 64, none⟩, by omega, by rw [show T - 64 * (i + 1) = m - 64 by omega, show cap - 64 * (i + 1) = cc - 64 by omega], fun h => rfl, ArrKit.Bk.row HH5.o _, ArrKit.Bk.rowOther (HF5.o.keep MR.o (fun h => h)) _ (by omega), ArrKit.Bk.rowOther (HF5.o.keep MK.o (fun h => h)) _ (by omega), ⟨ArrKit.Bk.rowOther (HF5.o.keep MO.o.blk (fun h => h)) _ (by omega), MO.o.len, MO.o.room, MO.o.size, MO.o.cap, MO.o.here⟩, ArrKit.Fr.row (MF.o.then0 HF5.o) _ _ (.inl (by omega))⟩, by simp [slen];omega⟩
   case roundEnd =>
    have hm := HM.o
    have hcc := HCC.o
    have hG := HG2.o
    refine ⟨⟨i + 1, some ⟨g, 64 * i, none⟩, by omega, by rw [show T - 64 * (i + 1) = m - 64 by omega, show cap - 64 * (i + 1) = cc - 64 by omega], fun h => by omega, ArrKit.Bk.row HH5.o _, ArrKit.Bk.rowOther (HF5.o.keep MR.o (fun h => h)) _ (by omega), ArrKit.Bk.rowOther (HF5.o.keep MK.o (fun h => h)) _ (by omega), ⟨ArrKit.Bk.rowOther (HF5.o.keep MO.o.blk (fun h => h)) _ (by omega), MO.o.len, MO.o.room, MO.o.size, MO.o.cap, MO.o.here⟩, ArrKit.Fr.row (MF.o.then0 HF5.o) _ _ (.inl (by omega))⟩, by simp [slen];omega⟩

end Go.Proofs.YtmkmpfnadcmcoaaGreatDoor.ShaSum
