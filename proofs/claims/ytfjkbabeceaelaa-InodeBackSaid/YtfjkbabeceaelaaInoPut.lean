/- A node's bytes: the walk of inode.Put. -/
import Derived.Test.YtfjkbabeceaelaaInoNew
import Derived.Test.YtfjkbabeceaelaaPtrROf
import Derived.Test.YtfjkbabeceaelaaPtrPut
import Derived.Laws.IdiomRangeMap
import Derived.Maps.Own
import Derived.Maps.RangeRun
import Derived.WalkKit
import Derived.Carry
set_option linter.unusedVariables false
set_option linter.unusedSimpArgs false
namespace Go.Proofs.Ytfjkbabeceaelaa.InoPut
open Go Go.RowKit Go.Proofs.Ytfjkbabeceaelaa.K Go.Proofs.Ytfjkbabeceaelaa.EqKit Go.Proofs.Ytfjkbabeceaelaa.PtrKit Go.Proofs.Ytfjkbabeceaelaa.ArrKit Go.Proofs.Ytfjkbabeceaelaa.HeldKit Go.Proofs.Ytfjkbabeceaelaa.PtrAsk Go.Proofs.Ytfjkbabeceaelaa.PtrRRight Go.Proofs.Ytfjkbabeceaelaa.ShaStep Go.Proofs.Ytfjkbabeceaelaa.ShaSum Go.Proofs.Ytfjkbabeceaelaa.PtrOf Go.Proofs.Ytfjkbabeceaelaa.PtrROf Go.Proofs.Ytfjkbabeceaelaa.WordPut Go.Proofs.Ytfjkbabeceaelaa.WordTake Go.Proofs.Ytfjkbabeceaelaa.PtrPut Go.Proofs.Ytfjkbabeceaelaa.InoKit Go.Proofs.Ytfjkbabeceaelaa.InoRRight Go.Proofs.Ytfjkbabeceaelaa.InoNew

def Z64 : List UInt8 := List.replicate 64 0
def ZB : Array Value := (Z64.map B).toArray
theorem Z64_len : Z64.length = 64 := by simp [Z64]
theorem infoB : (Try.prog.info? 22).map (·.size) = some 64 := by kernel_rfl
theorem ZB_one : ZB.all (·.oneCell') = true := by simp [ZB, Z64, B, Value.oneCell']
set_option maxHeartbeats 2000000 in
set_option maxRecDepth 100000 in
theorem put_wrong (x : NV) (w : World) (hx : x.ok) (hr : nR x = false) : Calls Try.prog 12 #[.agg x.cells.toArray] w fun e w' => e = .returned (.tuple #[.agg ZB, .int .i64 1]) ∧ Fr0 w w' := by
  have hz : ∀ W, (zeroValue 22).run Try.prog W = .ok (.agg ZB) W := by intro W; kernel_rfl
  have HRI : Hid (∀ W : World, Calls Try.prog 17 #[.agg x.cells.toArray] W fun e w' => e = .returned (.bool false) ∧ Fr0 W w') := Lib.hid (fun W => by
    have := nright_calls x W hx
    rw [hr] at this
    exact this)
  have HIN : Hid ((Try.prog.info? 30).map (·.size) = some x.cells.toArray.size) := Lib.hid (by rw [info_n, List.size_toArray, NV.cells_length hx])
  generalize x.cells.toArray = X at *
  clear hx hr
  have hs1 : (w.alloc (.cells X 30)).heap.size = w.heap.size + 1 := by simp
  have hs2 : ((w.alloc (.cells X 30)).alloc (.cells ZB 22)).heap.size = w.heap.size + 1 + 1 := by simp
  have HN : Hid (Bk (((w.alloc (.cells X 30)).alloc (.cells ZB 22)).alloc (.cells ZB 22)) w.heap.size X 30) := Lib.hid (Bk.alloc (Bk.alloc (Bk.new w _) _) _)
  have HR : Hid (Bk (((w.alloc (.cells X 30)).alloc (.cells ZB 22)).alloc (.cells ZB 22)) (w.heap.size + 1) ZB 22) := Lib.hid (Bk.alloc (by have := Bk.new (w.alloc (.cells X 30)) (.cells ZB 22); rwa [hs1] at this) _)
  have HG : Hid (Bk (((w.alloc (.cells X 30)).alloc (.cells ZB 22)).alloc (.cells ZB 22)) (w.heap.size + 1 + 1) ZB 22) := Lib.hid (by have := Bk.new ((w.alloc (.cells X 30)).alloc (.cells ZB 22)) (.cells ZB 22); rwa [hs2] at this)
  have HF : Hid (Fr0 w (((w.alloc (.cells X 30)).alloc (.cells ZB 22)).alloc (.cells ZB 22))) := Lib.hid (Fr.alloc (Fr.alloc (Fr.alloc (Fr.refl _ _) _) _) _)
  clear hs1 hs2
  go_enter Try.func12, Try.ntmps12
  go_wp2_with (first | ((with_reducible show wpList _ _ _ ({ dst := _, op := Op.load 30 _, type := _, pos := _, after := _, guard := _ } :: _) _ _); refine wpList_load_row rfl 30 _ rfl w.heap.size rfl 30 X (0, 0) _ HN.out Try.underlying30 rfl HIN.out ?_) | (go_at_call 17; (with_reducible refine (HRI.out _).mono ?_); rintro e w2 ⟨rfl, hf2⟩; have HG2 := Lib.hid (hf2.keep HG.out (fun h => h)); have HR2 := Lib.hid (hf2.keep HR.out (fun h => h)); have HF2 := Lib.hid (HF.out.then0 hf2); clear hf2) | ((with_reducible show wpList _ _ _ ({ dst := _, op := Op.load 22 _, type := _, pos := _, after := _, guard := _ } :: _) _ _); refine wpList_load_row rfl 22 _ rfl (w.heap.size + 1 + 1) rfl 22 ZB (0, 0) _ HG2.out Try.underlying22 rfl infoB ?_) | ((with_reducible show wpList _ _ _ ({ dst := _, op := Op.store 22 _ _, type := _, pos := _, after := _, guard := _ } :: _) _ _); refine wpList_store_row rfl 22 _ _ rfl (w.heap.size + 1) ZB rfl rfl 22 ZB HR2.out infoB rfl ZB_one ?_))
  refine fin_ct (w.heap.size + 1) 22 ZB (.int .i64 1) (by rfl) (by rfl) (by rfl) (by rfl) Try.underlying22 (by rfl) infoB (ArrKit.Bk.row HR2.out _) ?_
  exact ⟨rfl, ArrKit.Fr.row HF2.out _ _ (.inl (by omega))⟩
theorem run_mapUpdate_new {P : Program} (w : World) (mty kt et : TypeId) (clock : Nat) (es : Array MapEntry) (key val : Value) (d : TypeDesc) (hm : P.underlying mty = some (.map kt et)) (hd : P.underlying kt = some d) (hk : MapKept.IsKey d key) (hf : Instr.findNow d key es.toList 0 = some none) :
    (Instr.mapUpdate mty (.map (some w.heap.size)) key val).run P (w.alloc (.map es clock)) = .ok () (w.alloc (.map (es.push { key := key, val := val, born := clock }) (clock + 1))) := by
  have hb : (w.alloc (.map es clock)).heap[w.heap.size]? = some (.map es clock) := heap_alloc_new w _
  have hp : ∀ (h : Array Obj) (x y : Obj), (h.push x).setIfInBounds h.size y = h.push y := by
    intro h x y
    apply Array.toList_inj.1
    simp
  simp [Instr.mapUpdate, run_underlying hm, MapKept.run_getObj_map hb, MapKept.run_checkKey hd hk, MapKept.run_findKey hd hf, MapKept.run_setObj_map _ hb, Result.andThen]
  show ({ w.alloc (.map es clock) with heap := (w.heap.push _).setIfInBounds w.heap.size _ } : World) = _
  rw [hp]
  rfl
def ent (k : Int) (v : Int) (b : Nat) : MapEntry := { key := .int .i64 k, val := .int .i64 v, born := b }
def ES (a b c : Int) : Array MapEntry := #[ent 0 a 0, ent 1 b 1, ent 2 c 2]
theorem ups (w : World) (a b c : Int) :
    (Instr.mapUpdate 55 (.map (some w.heap.size)) (.int .i64 0) (.int .i64 a)).run Try.prog (w.alloc (.map #[] 0)) = .ok () (w.alloc (.map #[ent 0 a 0] 1)) ∧
    (Instr.mapUpdate 55 (.map (some w.heap.size)) (.int .i64 1) (.int .i64 b)).run Try.prog (w.alloc (.map #[ent 0 a 0] 1)) = .ok () (w.alloc (.map #[ent 0 a 0, ent 1 b 1] 2)) ∧
    (Instr.mapUpdate 55 (.map (some w.heap.size)) (.int .i64 2) (.int .i64 c)).run Try.prog (w.alloc (.map #[ent 0 a 0, ent 1 b 1] 2)) = .ok () (w.alloc (.map (ES a b c) 3)) :=
  ⟨run_mapUpdate_new w 55 3 3 0 #[] _ _ _ Try.underlying55 Try.underlying3 (by simp [MapKept.IsKey]) (by rfl),
   run_mapUpdate_new w 55 3 3 1 #[ent 0 a 0] _ _ _ Try.underlying55 Try.underlying3 (by simp [MapKept.IsKey]) (by rfl),
   run_mapUpdate_new w 55 3 3 2 #[ent 0 a 0, ent 1 b 1] _ _ _ Try.underlying55 Try.underlying3 (by simp [MapKept.IsKey]) (by rfl)⟩
theorem range_es (w : World) (a b c : Int) : (Instr.range 55 (.map (some w.heap.size))).run Try.prog (w.alloc (.map (ES a b c) 3)) = .ok (.pointer (some ⟨w.heap.size + 1, 0, none⟩)) ((w.alloc (.map (ES a b c) 3)).alloc (.mapIter (some w.heap.size) 3 #[] 3)) := by
  have := run_range_map (P := Try.prog) (w.alloc (.map (ES a b c) 3)) 55 3 3 w.heap.size (ES a b c) 3 Try.underlying55 (heap_alloc_new w _)
  rw [show (w.alloc (.map (ES a b c) 3)).heap.size = w.heap.size + 1 by simp] at this
  exact this
theorem ES_list (a b c : Int) : (ES a b c).toList = [ent 0 a 0, ent 1 b 1, ent 2 c 2] := rfl
theorem sb_same (w : World) (r : Nat) (o : Obj) (h : r < w.heap.size) : (ChangeMaps.setBlock w r o).heap[r]? = some o := by
  show (w.heap.setIfInBounds r o)[r]? = _
  rw [Array.getElem?_setIfInBounds, if_pos rfl, if_pos h]
theorem sb_other (w : World) (r i : Nat) (o : Obj) (h : i ≠ r) : (ChangeMaps.setBlock w r o).heap[i]? = w.heap[i]? := by
  show (w.heap.setIfInBounds r o)[i]? = _
  rw [Array.getElem?_setIfInBounds, if_neg (fun e => h e.symm)]
theorem sb_fr {w0 w : World} (h : Fr0 w0 w) (r : Nat) (o : Obj) (hr : w0.heap.size ≤ r) : Fr0 w0 (ChangeMaps.setBlock w r o) := ⟨h.os, h.tape, h.output, by show _ ≤ (w.heap.setIfInBounds r o).size; rw [Array.size_setIfInBounds]; exact h.size, fun i hi hn => (sb_other w r i o (by omega)).trans (h.block i hi hn)⟩
theorem seen_of {w : World} {r a b c : Nat} {s : Array Nat} (h : w.heap[r]? = some (.mapIter (some a) b s c)) : w.iterSeen r = s := by
  unfold World.iterSeen
  rw [h]
/-- the cells, once so many of the three were laid -/
def CS (a b c : Int) (seen : Array Nat) (cs : Array Value) : Prop := cs.size = 64 ∧ ∀ i, cs[i]? = if i = 0 ∧ seen.contains 0 = true then some (.int .u8 a) else if i = 1 ∧ seen.contains 1 = true then some (.int .u8 b) else if i = 2 ∧ seen.contains 2 = true then some (.int .u8 c) else ZB[i]?
theorem CS_none (a b c : Int) : CS a b c #[] ZB := ⟨by simp [ZB, Z64], fun i => by simp⟩
theorem CS_k {a b c : Int} {seen : Array Nat} {cs : Array Value} (h : CS a b c seen cs) : CS a b c (seen.push 0) (cs.setIfInBounds 0 (.int .u8 a)) := ⟨by rw [Array.size_setIfInBounds]; exact h.1, fun i => by
  rw [Array.getElem?_setIfInBounds, h.1, contains_push, contains_push, contains_push]
  by_cases e : i = 0
  · subst e; simp
  · rw [if_neg (fun e' => e e'.symm), h.2 i]; simp [e]⟩
theorem CS_l {a b c : Int} {seen : Array Nat} {cs : Array Value} (h : CS a b c seen cs) : CS a b c (seen.push 1) (cs.setIfInBounds 1 (.int .u8 b)) := ⟨by rw [Array.size_setIfInBounds]; exact h.1, fun i => by
  rw [Array.getElem?_setIfInBounds, h.1, contains_push, contains_push, contains_push]
  by_cases e : i = 1
  · subst e; simp
  · rw [if_neg (fun e' => e e'.symm), h.2 i]; simp [e]⟩
theorem CS_c {a b c : Int} {seen : Array Nat} {cs : Array Value} (h : CS a b c seen cs) : CS a b c (seen.push 2) (cs.setIfInBounds 2 (.int .u8 c)) := ⟨by rw [Array.size_setIfInBounds]; exact h.1, fun i => by
  rw [Array.getElem?_setIfInBounds, h.1, contains_push, contains_push, contains_push]
  by_cases e : i = 2
  · subst e; simp
  · rw [if_neg (fun e' => e e'.symm), h.2 i]; simp [e]⟩
/-- the three laid -/
def C3 (a b c : Int) : Array Value := ((ZB.setIfInBounds 0 (.int .u8 a)).setIfInBounds 1 (.int .u8 b)).setIfInBounds 2 (.int .u8 c)
theorem CS_all {a b c : Int} {seen : Array Nat} {cs : Array Value} (h : CS a b c seen cs) (hs : ∀ x ∈ (ES a b c).toList, seen.contains x.born = true) : cs = C3 a b c := by
  have s0 : seen.contains 0 = true := hs (ent 0 a 0) (by simp [ES])
  have s1 : seen.contains 1 = true := hs (ent 1 b 1) (by simp [ES])
  have s2 : seen.contains 2 = true := hs (ent 2 c 2) (by simp [ES])
  have hz : ZB.size = 64 := by simp [ZB, Z64]
  apply Array.ext_getElem?
  intro i
  rw [h.2 i, s0, s1, s2, C3, Array.getElem?_setIfInBounds, Array.getElem?_setIfInBounds, Array.getElem?_setIfInBounds]
  simp only [Array.size_setIfInBounds, hz, and_true]
  rcases (show i = 0 ∨ i = 1 ∨ i = 2 ∨ (i ≠ 0 ∧ i ≠ 1 ∧ i ≠ 2) by omega) with rfl | rfl | rfl | ⟨h0, h1, h2⟩
  · simp
  · simp
  · simp
  · rw [if_neg h0, if_neg h1, if_neg h2, if_neg (fun e => h2 e.symm), if_neg (fun e => h1 e.symm), if_neg (fun e => h0 e.symm)]
theorem C3_size (a b c : Int) : (C3 a b c).size = 64 := by simp [C3, ZB, Z64]
theorem size_of {x : NV} (h : nR x = true) : 0 ≤ x.size ∧ x.size ≤ 8192 := by
  rw [nR, Bool.and_eq_true, decide_eq_true_eq] at h
  omega
theorem Held.pastG {w w1 w2 : World} {G : Nat} {os : List (Nat × Obj)} (h : Held w os w1) (hf : Fr (fun i => i = G) w1 w2) (h1 : ∀ r ∈ os, r.1 ≠ G) (h2 : w.heap.size ≤ G) : Held w os w2 := ⟨fun r hr => hf.keep (h.1 r hr) (h1 r hr), h.2.then hf (fun i hi e => by omega)⟩
theorem bounds_of {x : NV} (h : nR x = true) : 0 ≤ x.kind ∧ x.kind < 256 ∧ 0 ≤ x.links ∧ x.links < 256 ∧ 0 ≤ x.cps ∧ x.cps < 256 := by
  rw [nR, Bool.and_eq_true, decide_eq_true_eq] at h
  omega
theorem set_alloc (w : World) (a : Addr) (v : Value) (o : Obj) (h : a.block < w.heap.size) : (w.alloc o).setCell a v = (w.setCell a v).alloc o := by
  unfold World.setCell World.alloc
  simp only [World.mk.injEq, and_true, true_and]
  apply Array.ext_getElem?
  intro i
  simp only [Array.getElem?_modify, Array.getElem?_push, Array.size_modify]
  by_cases h1 : i = w.heap.size
  · rw [if_pos h1, if_pos h1, if_neg (by omega)]
  · rw [if_neg h1, if_neg h1]
theorem root_of {x : NV} (h : nR x = true) : x.root.right = true := by
  rw [nR, Bool.and_eq_true] at h
  exact h.2
/-- a node's 64 bytes -/
def nodeB (x : NV) : List UInt8 := [UInt8.ofNat x.kind.toNat, UInt8.ofNat x.links.toNat, UInt8.ofNat x.cps.toNat, 0] ++ (le x.size.toNat 4 ++ (x.root.by ++ List.replicate 16 0))
theorem by_length {v : V3} (h : v.ok) : v.by.length = 40 := PB_length _ _ _ h.len
theorem nodeB_length {x : NV} (h : x.ok) : (nodeB x).length = 64 := by simp [nodeB, by_length h.root]
def spl (l : List UInt8) (p : Nat) (m : List UInt8) : List UInt8 := l.take p ++ (m ++ l.drop (p + m.length))
theorem lay_spl (l m : List UInt8) (p : Nat) (h : p + m.length ≤ l.length) : lay (l.map B).toArray p (m.map B) = ((spl l p m).map B).toArray := by
  apply Array.ext_getElem?
  intro i
  rw [lay_get, List.length_map, List.size_toArray, List.length_map, List.getElem?_toArray, List.getElem?_toArray, List.getElem?_map, List.getElem?_map, List.getElem?_map, spl, List.getElem?_append, List.length_take, Nat.min_eq_left (by omega)]
  by_cases h1 : i < p
  · rw [if_neg (by omega), if_pos h1, List.getElem?_take, if_pos h1]
  · rw [if_neg h1, List.getElem?_append]
    by_cases h2 : i - p < m.length
    · rw [if_pos (by omega), if_pos h2]
    · rw [if_neg (by omega), if_neg h2, List.getElem?_drop, show p + m.length + (i - p - m.length) = i by omega]
theorem C3_list (a b c : Nat) (ha : a < 256) (hb : b < 256) (hc : c < 256) : C3 a b c = (([UInt8.ofNat a, UInt8.ofNat b, UInt8.ofNat c, 0] ++ List.replicate 60 0).map B).toArray := by
  have e : ∀ n : Nat, n < 256 → Value.int .u8 (n : Int) = B (UInt8.ofNat n) := fun n h => by rw [B_ofNat, Nat.mod_eq_of_lt h]
  unfold C3
  rw [e a ha, e b hb, e c hc]
  rfl
theorem lay_nodeB {x : NV} (h : nR x = true) {sn : Nat} (hs : x.size = (sn : Int)) (hok : x.ok) : lay (lay (C3 x.kind x.links x.cps) (0 + 4) ((le sn 4).map B)) (0 + 8) (x.root.by.map B) = ((nodeB x).map B).toArray := by
  obtain ⟨k0, k1, l0, l1, c0, c1⟩ := bounds_of h
  obtain ⟨a, ha⟩ := Int.eq_ofNat_of_zero_le k0
  obtain ⟨b, hb⟩ := Int.eq_ofNat_of_zero_le l0
  obtain ⟨c, hc⟩ := Int.eq_ofNat_of_zero_le c0
  have hl := by_length hok.root
  have hle : (le sn 4).length = 4 := by simp
  rw [nodeB, ha, hb, hc, hs, Int.toNat_natCast, Int.toNat_natCast, Int.toNat_natCast, Int.toNat_natCast, C3_list a b c (by omega) (by omega) (by omega), Nat.zero_add, Nat.zero_add, lay_spl _ _ 4 (by rw [hle]; simp), lay_spl _ _ 8 (by rw [hl, spl]; simp)]
  congr 2
  generalize le sn 4 = m4 at *
  generalize x.root.by = m40 at *
  match m4, hle with
  | [y0, y1, y2, y3], _ =>
    have e1 : spl ([UInt8.ofNat a, UInt8.ofNat b, UInt8.ofNat c, 0] ++ List.replicate 60 0) 4 [y0, y1, y2, y3] = [UInt8.ofNat a, UInt8.ofNat b, UInt8.ofNat c, 0, y0, y1, y2, y3] ++ List.replicate 56 0 := rfl
    rw [e1, spl, hl]
    rfl
set_option maxHeartbeats 2000000 in
set_option maxRecDepth 100000 in
theorem put_right (x : NV) (w : World) (hx : x.ok) (hr : nR x = true) : Calls Try.prog 12 #[.agg x.cells.toArray] w fun e w' => e = .returned (.tuple #[.agg ((nodeB x).map B).toArray, .int .i64 0]) ∧ Fr0 w w' := by
  have hz : ∀ W, (zeroValue 22).run Try.prog W = .ok (.agg ZB) W := by intro W; kernel_rfl
  have HRI : Hid (∀ W : World, Calls Try.prog 17 #[.agg x.cells.toArray] W fun e w' => e = .returned (.bool true) ∧ Fr0 W w') := Lib.hid (fun W => by
    have := nright_calls x W hx
    rw [hr] at this
    exact this)
  have HIN : Hid ((Try.prog.info? 30).map (·.size) = some x.cells.toArray.size) := Lib.hid (by rw [info_n, List.size_toArray, NV.cells_length hx])
  have HN : Hid (Bk (((w.alloc (.cells x.cells.toArray 30)).alloc (.cells ZB 22)).alloc (.cells ZB 22)) w.heap.size x.cells.toArray 30) := Lib.hid (Bk.alloc (Bk.alloc (Bk.new w _) _) _)
  have HX := Lib.hid hx
  have HRB := Lib.hid hr
  have hs1 : (w.alloc (.cells x.cells.toArray 30)).heap.size = w.heap.size + 1 := by simp
  have hs2 : ((w.alloc (.cells x.cells.toArray 30)).alloc (.cells ZB 22)).heap.size = w.heap.size + 1 + 1 := by simp
  have HR : Hid (Bk (((w.alloc (.cells x.cells.toArray 30)).alloc (.cells ZB 22)).alloc (.cells ZB 22)) (w.heap.size + 1) ZB 22) := Lib.hid (Bk.alloc (by have := Bk.new (w.alloc (.cells x.cells.toArray 30)) (.cells ZB 22); rwa [hs1] at this) _)
  have HG : Hid (Bk (((w.alloc (.cells x.cells.toArray 30)).alloc (.cells ZB 22)).alloc (.cells ZB 22)) (w.heap.size + 1 + 1) ZB 22) := Lib.hid (by have := Bk.new ((w.alloc (.cells x.cells.toArray 30)).alloc (.cells ZB 22)) (.cells ZB 22); rwa [hs2] at this)
  have HF : Hid (Fr0 w (((w.alloc (.cells x.cells.toArray 30)).alloc (.cells ZB 22)).alloc (.cells ZB 22))) := Lib.hid (Fr.alloc (Fr.alloc (Fr.alloc (Fr.refl _ _) _) _) _)
  clear hs1 hs2
  generalize hX : x.cells.toArray = X at *
  have HXX := Lib.hid hX
  clear hx hr hX
  have hmm := @run_makeMap Try.prog
  go_enter Try.func12, Try.ntmps12
  go_wp2_with (first | ((with_reducible show wpList _ _ _ ({ dst := _, op := Op.load 30 _, type := _, pos := _, after := _, guard := _ } :: _) _ _); refine wpList_load_row rfl 30 _ rfl w.heap.size rfl 30 X (0, 0) _ HN.out Try.underlying30 rfl HIN.out ?_) | (go_at_call 17; (with_reducible refine (HRI.out _).mono ?_); rintro e w2 ⟨rfl, hf2⟩; have HX2 := Lib.hid (hf2.keep HN.out (fun h => h)); have hh := Has.of HX.out (by rw [HXX.out]; exact HX2.out : Bk w2 w.heap.size x.cells.toArray 30); have q1 := hh.kind; have q2 := hh.links; have q4 := hh.cps; have HG2 := Lib.hid (hf2.keep HG.out (fun h => h)); have HR2 := Lib.hid (hf2.keep HR.out (fun h => h)); have HF2 := Lib.hid (HF.out.then0 hf2); have hlt2 := Bk.lt HX2.out; have hu1 := (ups w2 x.kind x.links x.cps).1; have hu2 := (ups w2 x.kind x.links x.cps).2.1; have hu3 := (ups w2 x.kind x.links x.cps).2.2; have hrg := range_es w2 x.kind x.links x.cps; clear hf2 hh))
  have HM3 : Hid ((w2.alloc (.map (ES x.kind x.links x.cps) 3)).heap[w2.heap.size]? = some (.map (ES x.kind x.links x.cps) 3)) := Lib.hid (heap_alloc_new w2 _)
  have HG3 := Lib.hid (Bk.alloc HG2.out (.map (ES x.kind x.links x.cps) 3))
  have HR3 := Lib.hid (Bk.alloc HR2.out (.map (ES x.kind x.links x.cps) 3))
  have HX3 := Lib.hid (Bk.alloc HX2.out (.map (ES x.kind x.links x.cps) 3))
  have HF3 := Lib.hid (Fr.alloc HF2.out (.map (ES x.kind x.links x.cps) 3))
  have HS3 : Hid ((w2.alloc (.map (ES x.kind x.links x.cps) 3)).heap.size = w2.heap.size + 1) := Lib.hid (by simp)
  have HGW : Hid (w.heap.size + 1 + 1 < w2.heap.size) := Lib.hid (Bk.lt HG2.out)
  clear hu1 hu2 hu3 hrg hmm q1 q2 q4
  generalize w2.alloc (.map (ES x.kind x.links x.cps) 3) = w3 at *
  generalize w2.heap.size = bm at *
  have hGB : w.heap.size + 1 + 1 ≠ bm := by have := HGW.out; omega
  have hGI : w.heap.size + 1 + 1 ≠ bm + 1 := by have := HGW.out; omega
  have hRI : w.heap.size + 1 ≠ bm + 1 := by have := HGW.out; omega
  have hXI : w.heap.size ≠ bm + 1 := by have := HGW.out; omega
  have hwI : w.heap.size ≤ bm + 1 := by have := HGW.out; omega
  have hGR : w.heap.size + 1 + 1 ≠ w.heap.size + 1 := by omega
  have hGX : w.heap.size + 1 + 1 ≠ w.heap.size := by omega
  have hwR : w.heap.size ≤ w.heap.size + 1 := by omega
  have hwG : w.heap.size ≤ w.heap.size + 1 + 1 := by omega
  generalize w.heap.size + 1 + 1 = G at *
  generalize w.heap.size + 1 = R at *
  have hbd := bounds_of HRB.out
  have hk0 := hbd.1
  have hk1 := hbd.2.1
  have hl0 := hbd.2.2.1
  have hl1 := hbd.2.2.2.1
  have hc0 := hbd.2.2.2.2.1
  have hc1 := hbd.2.2.2.2.2
  clear hbd
  have HI3 : Hid ((w3.alloc (.mapIter (some bm) 3 #[] 3)).heap[bm + 1]? = some (.mapIter (some bm) 3 #[] 3)) := Lib.hid (by have := heap_alloc_new w3 (.mapIter (some bm) 3 #[] 3); rwa [HS3.out] at this)
  have HM4 := Lib.hid (Bk.alloc HM3.out (.mapIter (some bm) 3 #[] 3))
  have HG4 := Lib.hid (Bk.alloc HG3.out (.mapIter (some bm) 3 #[] 3))
  have HR4 := Lib.hid (Bk.alloc HR3.out (.mapIter (some bm) 3 #[] 3))
  have HX4 := Lib.hid (Bk.alloc HX3.out (.mapIter (some bm) 3 #[] 3))
  have HF4 := Lib.hid (Fr.alloc HF3.out (.mapIter (some bm) 3 #[] 3))
  generalize w3.alloc (.mapIter (some bm) 3 #[] 3) = w4 at *
  have hMI : bm ≠ bm + 1 := by omega
  generalize bm + 1 = I at *
  clear HM3 HG3 HR3 HX3 HF3 HS3
  go_loopw [5] (fun _ wr => ∃ seen : Array Nat, wr.heap[I]? = some (.mapIter (some bm) 3 seen 3) ∧ wr.heap[bm]? = some (.map (ES x.kind x.links x.cps) 3) ∧ (∃ cs, Bk wr G cs 22 ∧ CS x.kind x.links x.cps seen cs) ∧ Bk wr R ZB 22 ∧ Bk wr w.heap.size X 30 ∧ Fr0 w wr) (fun _ wr => (leftOf (ES x.kind x.links x.cps) (wr.iterSeen I)).size)
  case atStart => exact ⟨#[], HI3.out, HM4.out, ⟨ZB, HG4.out, CS_none _ _ _⟩, HR4.out, HX4.out, HF4.out⟩
  case round =>
    obtain ⟨seen, hi1, hb1, ⟨cs, hg1, hcs⟩, hr1, hx1, hf1⟩ := hrel
    have law := run_next_at (P := Try.prog) wr 0 I bm 3 3 seen (ES x.kind x.links x.cps) 3 hi1 hb1 (by simp [ES, ent]) (Nat.le_refl _)
    have HI5 := Lib.hid hi1
    have HM5 := Lib.hid hb1
    have HG5 := Lib.hid hg1
    have HCS := Lib.hid hcs
    have HR5 := Lib.hid hr1
    have HX5 := Lib.hid hx1
    have HF5 := Lib.hid hf1
    clear hi1 hb1 hg1 hcs hr1 hx1 hf1
    rcases law with ⟨h0, hrun⟩ | ⟨e, he, w5, hw5, hrun⟩
    · have hnx : ∀ ty, (Instr.next (.pointer (some ⟨I, 0, none⟩)) false ty).run Try.prog wr = _ := fun _ => hrun
      have HDN := Lib.hid (all_seen _ _ h0)
      clear h0 hrun
      have hce := CS_all HCS.out HDN.out
      rw [hce] at HG5
      obtain ⟨sn, hsn⟩ : ∃ sn : Nat, x.size = (sn : Int) := ⟨x.size.toNat, by have := size_of HRB.out; omega⟩
      have hsn2 : sn ≤ 8192 := by have := size_of HRB.out; omega
      have HC37 : Hid (X[37]? = some (.int .i64 (sn : Int))) := Lib.hid (by rw [← HXX.out, ← hsn]; exact cells_size HX.out)
      have HSN := Lib.hid hsn
      have HWP : Hid (∀ W : World, Bk W G (C3 x.kind x.links x.cps) 22 → Calls Try.prog 26 #[.slice (some ⟨G, 0, none⟩) 64 64, .int .i64 4, .int .i64 4, .int .i64 (sn : Int)] W (PutPost G (C3 x.kind x.links x.cps) 22 (0 + 4) (le sn 4) W 0)) := Lib.hid (fun W h => WordPut.put_ok G 0 64 64 4 4 sn _ 22 W h (by omega) (by omega) (by omega) (by rw [C3_size]; omega) (by omega) (by omega) (by refine ⟨by omega, by omega, by omega, fun _ => ?_⟩; show ((sn : Nat) : Int) / 2 ^ 32 ≤ 0; omega))
      have HG9 : Hid (Bk wr.drew G (C3 x.kind x.links x.cps) 22) := Lib.hid HG5.out
      have H8 : Hid (Held w [(w.heap.size, .cells X 30 (0, 0)), (R, .cells ZB 22 (0, 0))] wr) := Lib.hid (Held.cons HX5.out (Held.cons HR5.out (Held.nil HF5.out)))
      clear hce hsn
      go_wp2_with fail
      refine wp_region_noPanic ?_
      refine wp_region_held_drew (S := (Held w [(w.heap.size, .cells X 30 (0, 0)), (R, .cells ZB 22 (0, 0))])) (by kernel_rfl) (Held.drew H8.out) (fun hHeld0 => ?_)
      change wpAnyH _ _ _ _ _ 5 #[false, false, false, false, false] _ _
      refine wpAnyH_take (i := 0) (v := .slice (some ⟨G, 0, none⟩) 64 64) rfl (by kernel_rfl) (by kernel_rfl) (by kernel_rfl) (fun _ _ _ h => h) (Or.inl ⟨by kernel_rfl, fun w hSw => by kernel_rfl⟩) hHeld0 ?_
      simp only [Act.put, List.getElem_toArray, List.getElem_cons_succ, List.getElem_cons_zero, List.setIfInBounds_toArray, List.set_cons_zero, List.set_cons_succ]
      change wpAnyH _ _ _ _ _ 4 #[true, false, false, false, false] _ _
      refine wpAnyH_take (i := 1) (v := .pointer (some ⟨w.heap.size, 3, none⟩)) rfl (by kernel_rfl) (by kernel_rfl) (by kernel_rfl) (fun _ _ _ h => h) (Or.inl ⟨by kernel_rfl, fun w hSw => by first | kernel_rfl | (go_simp; done)⟩) hHeld0 ?_
      simp only [Act.put, List.getElem_toArray, List.getElem_cons_succ, List.getElem_cons_zero, List.setIfInBounds_toArray, List.set_cons_zero, List.set_cons_succ]
      change wpAnyH _ _ _ _ _ 3 #[true, true, false, false, false] _ _
      refine wpAnyH_take (i := 2) (v := .pointer (some ⟨w.heap.size, 37, none⟩)) rfl (by kernel_rfl) (by kernel_rfl) (by kernel_rfl) (fun _ _ _ h => h) (Or.inl ⟨by kernel_rfl, fun w hSw => by first | kernel_rfl | (go_simp; done)⟩) hHeld0 ?_
      simp only [Act.put, List.getElem_toArray, List.getElem_cons_succ, List.getElem_cons_zero, List.setIfInBounds_toArray, List.set_cons_zero, List.set_cons_succ]
      change wpAnyH _ _ _ _ _ 2 #[true, true, true, false, false] _ _
      refine wpAnyH_take (i := 3) (v := .int .i64 (sn : Int)) rfl (by kernel_rfl) (by kernel_rfl) (by kernel_rfl) (fun _ _ _ h => h) (Or.inl ⟨by kernel_rfl, fun w hSw => by have hcl := (fun w h => (Bk.cell (Held.a0 h) 37).trans HC37.out) w hSw; go_simp⟩) hHeld0 ?_
      simp only [Act.put, List.getElem_toArray, List.getElem_cons_succ, List.getElem_cons_zero, List.setIfInBounds_toArray, List.set_cons_zero, List.set_cons_succ]
      change wpAnyH _ _ _ _ _ 1 #[true, true, true, true, false] _ _
      refine wpAnyH_ready (rs := [4]) (by kernel_rfl) (by simp) ?_
      refine AllReadyH.cons rfl (fun K hK => ?_) AllReadyH.nil
      simp only [List.getElem_toArray, List.getElem_cons_succ, List.getElem_cons_zero]
      refine (if_pos (by kernel_rfl)).mpr ?_
      go_wp2_with fail
      refine (HWP.out _ HG9.out).mono ?_
      rintro e wx0 ⟨rfl, hgx, hfx0⟩
      dsimp only
      have HG10 := Lib.hid hgx
      clear hgx
      refine hK.out _ _ (Held.pastG hHeld0 hfx0 (fun r hr => by simp only [List.mem_cons, List.not_mem_nil, or_false] at hr; rcases hr with rfl | rfl; exact Ne.symm hGX; exact Ne.symm hGR) hwG) (fun hHeld1 => ?_)
      clear hK K hHeld0
      change wpAnyH _ _ _ _ _ 0 #[true, true, true, true, true] _ _
      refine wpAnyH_done (by kernel_rfl) ?_ _
      refine NoPanic.normal ?_
      have HFIN := Lib.hid (Held.f hHeld1)
      have HEND := Lib.hid hHeld1
      clear hHeld1
      have HV : Hid x.root.ok := Lib.hid HX.out.root
      have HRRr : Hid (x.root.right = true) := Lib.hid (root_of HRB.out)
      have HPP : Hid (∀ (W : World) (cs : Array Value), Bk W G cs 22 → cs.size = 64 → Calls Try.prog 27 #[.slice (some ⟨G, 0, none⟩) 64 64, .int .i64 8, .agg x.root.pc.toArray] W fun e w' => e = .returned (.int .i64 0) ∧ Bk w' G (lay cs (0 + 8) (x.root.by.map B)) 22 ∧ Fr (· = G) W w') := Lib.hid (fun W cs h hz => PtrPut.put_fits G 0 64 64 8 x.root.a x.root.b x.root.s cs 22 W HV.out.len HV.out.wa HV.out.wb h (by omega) (by omega) (by omega) (by omega) (by omega) HRRr.out)
      have HIRp : Hid ((Try.prog.info? 26).map (·.size) = some x.root.pc.length) := Lib.hid (by rw [info_p, pc_length HV.out])
      have HXR : Hid (∀ W : World, W.heap[w.heap.size]? = some (.cells X 30 (0, 0)) → W.rangeAt w.heap.size 3 x.root.pc) := Lib.hid (fun W h j u hj => by
        rw [Bk.cell h, ← HXX.out]
        exact cells_root HX.out j u hj)
      have HG11 : Hid (Bk wx0.drew G (lay (C3 x.kind x.links x.cps) (0 + 4) ((le sn 4).map B)) 22) := Lib.hid HG10.out
      have H9 : Hid (Held w [(w.heap.size, .cells X 30 (0, 0)), (R, .cells ZB 22 (0, 0))] wx0) := HEND
      clear hnx
      go_wp2_with fail
      refine wp_region_noPanic ?_
      refine wp_region_held_drew (S := (Held w [(w.heap.size, .cells X 30 (0, 0)), (R, .cells ZB 22 (0, 0))])) (by kernel_rfl) (Held.drew H9.out) (fun hHeld0 => ?_)
      change wpAnyH _ _ _ _ _ 5 #[false, false, false, false, false] _ _
      refine wpAnyH_take (i := 0) (v := .slice (some ⟨G, 0, none⟩) 64 64) rfl (by kernel_rfl) (by kernel_rfl) (by kernel_rfl) (fun _ _ _ h => h) (Or.inl ⟨by kernel_rfl, fun w hSw => by kernel_rfl⟩) hHeld0 ?_
      simp only [Act.put, List.getElem_toArray, List.getElem_cons_succ, List.getElem_cons_zero, List.setIfInBounds_toArray, List.set_cons_zero, List.set_cons_succ]
      change wpAnyH _ _ _ _ _ 4 #[true, false, false, false, false] _ _
      refine wpAnyH_take (i := 1) (v := .pointer (some ⟨w.heap.size, 3, none⟩)) rfl (by kernel_rfl) (by kernel_rfl) (by kernel_rfl) (fun _ _ _ h => h) (Or.inl ⟨by kernel_rfl, fun w hSw => by first | kernel_rfl | (go_simp; done)⟩) hHeld0 ?_
      simp only [Act.put, List.getElem_toArray, List.getElem_cons_succ, List.getElem_cons_zero, List.setIfInBounds_toArray, List.set_cons_zero, List.set_cons_succ]
      change wpAnyH _ _ _ _ _ 3 #[true, true, false, false, false] _ _
      refine wpAnyH_take (i := 2) (v := .pointer (some ⟨w.heap.size, 3, none⟩)) rfl (by kernel_rfl) (by kernel_rfl) (by kernel_rfl) (fun _ _ _ h => h) (Or.inl ⟨by kernel_rfl, fun w hSw => by first | kernel_rfl | (go_simp; done)⟩) hHeld0 ?_
      simp only [Act.put, List.getElem_toArray, List.getElem_cons_succ, List.getElem_cons_zero, List.setIfInBounds_toArray, List.set_cons_zero, List.set_cons_succ]
      change wpAnyH _ _ _ _ _ 2 #[true, true, true, false, false] _ _
      refine wpAnyH_take (i := 3) (v := .agg x.root.pc.toArray) rfl (by kernel_rfl) (by kernel_rfl) (by kernel_rfl) (fun _ _ _ h => h) (yieldsIf_load_mid (by kernel_rfl) 26 _ rfl w.heap.size 3 rfl x.root.pc _ (fun W h => HXR.out W (Held.a0 h)) Try.underlying26 rfl HIRp.out) hHeld0 ?_
      simp only [Act.put, List.getElem_toArray, List.getElem_cons_succ, List.getElem_cons_zero, List.setIfInBounds_toArray, List.set_cons_zero, List.set_cons_succ]
      change wpAnyH _ _ _ _ _ 1 #[true, true, true, true, false] _ _
      refine wpAnyH_ready (rs := [4]) (by kernel_rfl) (by simp) ?_
      refine AllReadyH.cons rfl (fun K hK => ?_) AllReadyH.nil
      simp only [List.getElem_toArray, List.getElem_cons_succ, List.getElem_cons_zero]
      refine (if_pos (by kernel_rfl)).mpr ?_
      go_wp2_with fail
      refine (HPP.out _ _ HG11.out (by rw [lay_size, C3_size])).mono ?_
      rintro e wx0 ⟨rfl, hgx, hfx0⟩
      dsimp only
      have HG12 := Lib.hid hgx
      clear hgx
      refine hK.out _ _ (Held.pastG hHeld0 hfx0 (fun r hr => by simp only [List.mem_cons, List.not_mem_nil, or_false] at hr; rcases hr with rfl | rfl; exact Ne.symm hGX; exact Ne.symm hGR) hwG) (fun hHeld1 => ?_)
      clear hK K hHeld0
      change wpAnyH _ _ _ _ _ 0 #[true, true, true, true, true] _ _
      refine wpAnyH_done (by kernel_rfl) ?_ _
      refine NoPanic.normal ?_
      have HFIN := Lib.hid (Held.f hHeld1)
      have HEND := Lib.hid hHeld1
      clear hHeld1
      have HGF : Hid (Bk wx0 G ((nodeB x).map B).toArray 22) := Lib.hid (by
        have := HG12.out
        rw [lay_nodeB HRB.out HSN.out HX.out] at this
        exact this)
      have HRF := Lib.hid (Held.a0 (Held.tl HEND.out))
      have HIB : Hid ((Try.prog.info? 22).map (·.size) = some ((nodeB x).map B).toArray.size) := Lib.hid (by rw [infoB, List.size_toArray, List.length_map, nodeB_length HX.out])
      have HZB : Hid (ZB.size = ((nodeB x).map B).toArray.size) := Lib.hid ((show ZB.size = 64 by simp [ZB, Z64]).trans (by rw [List.size_toArray, List.length_map, nodeB_length HX.out]))
      have HOB : Hid (((nodeB x).map B).toArray.all (·.oneCell') = true) := Lib.hid (by simp [B, Value.oneCell'])
      go_wp2_with (first | ((with_reducible show wpList _ _ _ ({ dst := _, op := Op.load 22 _, type := _, pos := _, after := _, guard := _ } :: _) _ _); refine wpList_load_row rfl 22 _ rfl G rfl 22 ((nodeB x).map B).toArray (0, 0) _ HGF.out Try.underlying22 rfl HIB.out ?_) | ((with_reducible show wpList _ _ _ ({ dst := _, op := Op.store 22 _ _, type := _, pos := _, after := _, guard := _ } :: _) _ _); refine wpList_store_row rfl 22 _ _ rfl R ((nodeB x).map B).toArray rfl rfl 22 ZB HRF.out HIB.out HZB.out HOB.out ?_))
      refine fin_ct R 22 ((nodeB x).map B).toArray (.int .i64 0) (by rfl) (by rfl) (by rfl) (by rfl) Try.underlying22 (by rfl) HIB.out (ArrKit.Bk.row HRF.out _) ?_
      exact ⟨rfl, ArrKit.Fr.row HFIN.out _ _ (.inl hwR)⟩
    · have hmem := (mem_left he).1
      have HLS := Lib.hid (left_shrinks (ES x.kind x.links x.cps) seen e he)
      have hwi : w5.heap[I]? = wr.heap[I]? ∧ w5.heap.size = wr.heap.size ∧ (∀ i : Nat, w5.heap[i]? = wr.heap[i]?) ∧ Fr0 w w5 := by
        rcases hw5 with rfl | rfl
        · exact ⟨rfl, rfl, fun _ => rfl, HF5.out⟩
        · exact ⟨rfl, rfl, fun _ => rfl, HF5.out.drew⟩
      have hIl : I < w5.heap.size := by rw [hwi.2.1]; exact Bk.lt HI5.out
      obtain ⟨w6, hw6⟩ : ∃ w6, w6 = ChangeMaps.setBlock w5 I (.mapIter (some bm) 3 (seen.push e.born) 3) := ⟨_, rfl⟩
      rw [← hw6] at hrun
      have hi6 : w6.heap[I]? = some (.mapIter (some bm) 3 (seen.push e.born) 3) := by rw [hw6]; exact sb_same _ _ _ hIl
      have hm6 : w6.heap[bm]? = some (.map (ES x.kind x.links x.cps) 3) := by rw [hw6, sb_other _ _ _ _ hMI, hwi.2.2.1]; exact HM5.out
      have hg6 : Bk w6 G cs 22 := by show w6.heap[G]? = _; rw [hw6, sb_other _ _ _ _ hGI, hwi.2.2.1]; exact HG5.out
      have hr6 : Bk w6 R ZB 22 := by show w6.heap[R]? = _; rw [hw6, sb_other _ _ _ _ hRI, hwi.2.2.1]; exact HR5.out
      have hx6 : Bk w6 w.heap.size X 30 := by show w6.heap[w.heap.size]? = _; rw [hw6, sb_other _ _ _ _ hXI, hwi.2.2.1]; exact HX5.out
      have hf6 : Fr0 w w6 := by rw [hw6]; exact sb_fr hwi.2.2.2 _ _ hwI
      have hen := run_entry_at (P := Try.prog) w6 I bm 3 seen (ES x.kind x.links x.cps) 3 e hi6 hm6 hmem (by simp [ES, ent])
      have HI6 := Lib.hid hi6
      have HM6 := Lib.hid hm6
      have HG6 := Lib.hid hg6
      have HR6 := Lib.hid hr6
      have HX6 := Lib.hid hx6
      have HF6 := Lib.hid hf6
      have HSN : Hid (wr.iterSeen I = seen) := Lib.hid (seen_of HI5.out)
      clear hi6 hm6 hr6 hx6 hf6 hwi hw5 hw6 hIl he
      rw [ES_list] at hmem
      simp only [List.mem_cons, List.not_mem_nil, or_false] at hmem
      have hfz := fun j => Bk.free hg6 j
      rcases hmem with rfl | rfl | rfl
      · have hnx : ∀ ty, (Instr.next (.pointer (some ⟨I, 0, none⟩)) false ty).run Try.prog wr = .ok (.tuple #[.bool true, .int .i64 0, .int .i64 x.kind]) w6 := fun _ => hrun
        have hen' : (Instr.entry (.pointer (some ⟨I, 0, none⟩))).run Try.prog w6 = .ok (.tuple #[.int .i64 0, .int .i64 x.kind]) w6 := hen
        obtain ⟨u0, hu0⟩ : ∃ u, w6.cell? ⟨G, 0, none⟩ = some u := ⟨_, (hg6.cell 0).trans (Array.getElem?_eq_getElem (by rw [HCS.out.1]; decide))⟩
        have hfj := hfz 0
        clear hrun hen hfz hg6
        go_wp2
        have hi9 : (w6.setCell ⟨G, 0, none⟩ (.int .u8 (x.kind))).heap[I]? = some (.mapIter (some bm) 3 (seen.push 0) 3) := Bk.setOther HI6.out _ _ (Ne.symm hGI)
        refine ⟨⟨seen.push 0, hi9, Bk.setOther HM6.out _ _ (Ne.symm hGB), ⟨_, HG6.out.set 0 _, CS_k HCS.out⟩, Bk.setOther HR6.out _ _ (Ne.symm hGR), Bk.setOther HX6.out _ _ (Ne.symm hGX), HF6.out.set _ _ (.inl hwG)⟩, ?_⟩
        rw [seen_of hi9, HSN.out]
        exact HLS.out
      · have hnx : ∀ ty, (Instr.next (.pointer (some ⟨I, 0, none⟩)) false ty).run Try.prog wr = .ok (.tuple #[.bool true, .int .i64 1, .int .i64 x.links]) w6 := fun _ => hrun
        have hen' : (Instr.entry (.pointer (some ⟨I, 0, none⟩))).run Try.prog w6 = .ok (.tuple #[.int .i64 1, .int .i64 x.links]) w6 := hen
        obtain ⟨u0, hu0⟩ : ∃ u, w6.cell? ⟨G, 1, none⟩ = some u := ⟨_, (hg6.cell 1).trans (Array.getElem?_eq_getElem (by rw [HCS.out.1]; decide))⟩
        have hfj := hfz 1
        clear hrun hen hfz hg6
        go_wp2
        have hi9 : (w6.setCell ⟨G, 1, none⟩ (.int .u8 (x.links))).heap[I]? = some (.mapIter (some bm) 3 (seen.push 1) 3) := Bk.setOther HI6.out _ _ (Ne.symm hGI)
        refine ⟨⟨seen.push 1, hi9, Bk.setOther HM6.out _ _ (Ne.symm hGB), ⟨_, HG6.out.set 1 _, CS_l HCS.out⟩, Bk.setOther HR6.out _ _ (Ne.symm hGR), Bk.setOther HX6.out _ _ (Ne.symm hGX), HF6.out.set _ _ (.inl hwG)⟩, ?_⟩
        rw [seen_of hi9, HSN.out]
        exact HLS.out
      · have hnx : ∀ ty, (Instr.next (.pointer (some ⟨I, 0, none⟩)) false ty).run Try.prog wr = .ok (.tuple #[.bool true, .int .i64 2, .int .i64 x.cps]) w6 := fun _ => hrun
        have hen' : (Instr.entry (.pointer (some ⟨I, 0, none⟩))).run Try.prog w6 = .ok (.tuple #[.int .i64 2, .int .i64 x.cps]) w6 := hen
        obtain ⟨u0, hu0⟩ : ∃ u, w6.cell? ⟨G, 2, none⟩ = some u := ⟨_, (hg6.cell 2).trans (Array.getElem?_eq_getElem (by rw [HCS.out.1]; decide))⟩
        have hfj := hfz 2
        clear hrun hen hfz hg6
        go_wp2
        have hi9 : (w6.setCell ⟨G, 2, none⟩ (.int .u8 (x.cps))).heap[I]? = some (.mapIter (some bm) 3 (seen.push 2) 3) := Bk.setOther HI6.out _ _ (Ne.symm hGI)
        refine ⟨⟨seen.push 2, hi9, Bk.setOther HM6.out _ _ (Ne.symm hGB), ⟨_, HG6.out.set 2 _, CS_c HCS.out⟩, Bk.setOther HR6.out _ _ (Ne.symm hGR), Bk.setOther HX6.out _ _ (Ne.symm hGX), HF6.out.set _ _ (.inl hwG)⟩, ?_⟩
        rw [seen_of hi9, HSN.out]
        exact HLS.out

def ipX (x : NV) : List UInt8 := if nR x then nodeB x else Z64
def ipE (x : NV) : Int := if nR x then 0 else 1
theorem ipX_length {x : NV} (h : x.ok) : (ipX x).length = 64 := by
  unfold ipX
  split
  · exact nodeB_length h
  · exact Z64_len
/-- PUT: what inode.Put answers. -/
theorem put_calls (x : NV) (w : World) (hx : x.ok) : Calls Try.prog 12 #[.agg x.cells.toArray] w fun e w' => e = .returned (.tuple #[.agg ((ipX x).map B).toArray, .int .i64 (ipE x)]) ∧ Fr0 w w' := by
  unfold ipX ipE
  cases hr : nR x with
  | false => exact put_wrong x w hx hr
  | true => exact put_right x w hx hr

end Go.Proofs.Ytfjkbabeceaelaa.InoPut
