/- Pointers laid as a node: the walk of ptr.Node. -/
import Derived.Test.YtjkaenhopkigdaaDoorPtrRPut
import Derived.Test.YtjkaenhopkigdaaDoorPtrRFit
set_option linter.unusedVariables false
set_option linter.unusedSimpArgs false
namespace Go.Proofs.YtjkaenhopkigdaaDoor.PtrNode
open Go Go.RowKit Go.Proofs.YtjkaenhopkigdaaDoor.K Go.Proofs.YtjkaenhopkigdaaDoor.EqKit Go.Proofs.YtjkaenhopkigdaaDoor.PtrKit Go.Proofs.YtjkaenhopkigdaaDoor.ArrKit Go.Proofs.YtjkaenhopkigdaaDoor.HeldKit Go.Proofs.YtjkaenhopkigdaaDoor.PtrAsk Go.Proofs.YtjkaenhopkigdaaDoor.ShaStep Go.Proofs.YtjkaenhopkigdaaDoor.ShaRef Go.Proofs.YtjkaenhopkigdaaDoor.ShaSum Go.Proofs.YtjkaenhopkigdaaDoor.PtrOf Go.Proofs.YtjkaenhopkigdaaDoor.RefCopy Go.Proofs.YtjkaenhopkigdaaDoor.WordPut Go.Proofs.YtjkaenhopkigdaaDoor.WordTake Go.Proofs.YtjkaenhopkigdaaDoor.PtrPut Go.Proofs.YtjkaenhopkigdaaDoor.PtrRFit

/-- a pointer -/
structure V3 where
  a : Int
  b : Int
  s : List UInt8
structure V3.ok (v : V3) : Prop where
  len : v.s.length = 32
  wa : (Lit.int .i64 v.a).wf = true
  wb : (Lit.int .i64 v.b).wf = true
def hol : V3 := ⟨-1, -1, Z⟩
theorem hol_ok : hol.ok := ⟨Z_len, by decide, by decide⟩
def V3.pc (v : V3) : List Value := PC v.a v.b v.s
def V3.right (v : V3) : Bool := rightB v.a v.b v.s
def V3.by (v : V3) : List UInt8 := PB v.a v.b v.s
theorem V3.by_length {v : V3} (h : v.ok) : v.by.length = 40 := PB_length _ _ _ h.len
/-- from A on the pointers stand -/
def RdV (w : World) (A0 : Option Addr) (ls : List V3) : Prop := ∀ i (h : i < ls.length), ∃ b o, A0 = some ⟨b, o, none⟩ ∧ w.rangeAt b (o + i * 34) ls[i].pc
theorem RdV.later {S : Nat → Prop} {w w1 : World} {A0 : Option Addr} {ls : List V3} (h : RdV w A0 ls) (f : Fr S w w1) (hs : ∀ a, A0 = some a → ¬ S a.block) : RdV w1 A0 ls := fun i hi => by
  obtain ⟨b, o, e, hr⟩ := h i hi
  refine ⟨b, o, e, fun j v hj => ?_⟩
  have hc := hr j v hj
  have hb := World.block_lt_of_cell? w _ hc
  rw [f.cell b (o + i * 34 + j) hb (hs _ e)]
  exact hc
theorem RdV.past {S : Nat → Prop} {w0 w w1 : World} {A0 : Option Addr} {ls : List V3} (h0 : RdV w0 A0 ls) (h : RdV w A0 ls) (f : Fr S w w1) (hs : ∀ b, b < w0.heap.size → ¬ S b) : RdV w1 A0 ls := fun i hi => by
  obtain ⟨b, o, e, hr⟩ := h i hi
  obtain ⟨b', o', e', hr'⟩ := h0 i hi
  rw [e] at e'
  simp only [Option.some.injEq, Addr.mk.injEq, and_true] at e'
  obtain ⟨rfl, rfl⟩ := e'
  have hb : b < w0.heap.size := by
    have hc := hr' 0 (.int .i64 ls[i].a) rfl
    exact World.block_lt_of_cell? w0 _ hc
  refine ⟨b, o, e, fun j v hj => ?_⟩
  have hc := hr j v hj
  rw [f.cell b (o + i * 34 + j) (World.block_lt_of_cell? w _ hc) (hs b hb)]
  exact hc
/-- the pointer in the place i -/
def el (ls : List V3) (i : Nat) : V3 := ls.getD i hol
theorem el_ok {ls : List V3} (h : ∀ v ∈ ls, v.ok) (i : Nat) : (el ls i).ok := by
  unfold el
  rw [List.getD_eq_getElem?_getD]
  by_cases hi : i < ls.length
  · rw [List.getElem?_eq_getElem hi]; exact h _ (List.getElem_mem hi)
  · rw [List.getElem?_eq_none (by omega)]; exact hol_ok
theorem el_in {ls : List V3} {i : Nat} (hi : i < ls.length) : el ls i = ls[i] := by
  unfold el
  rw [List.getD_eq_getElem?_getD, List.getElem?_eq_getElem hi]; rfl
theorem el_out {ls : List V3} {i : Nat} (hi : ls.length ≤ i) : el ls i = hol := by
  unfold el
  rw [List.getD_eq_getElem?_getD, List.getElem?_eq_none hi]; rfl
/-- the first k of them, laid -/
def nodeB (ls : List V3) : Nat → List UInt8
  | 0 => []
  | k + 1 => nodeB ls k ++ (el ls k).by
theorem nodeB_length {ls : List V3} (h : ∀ v ∈ ls, v.ok) (k : Nat) : (nodeB ls k).length = 40 * k := by
  induction k with
  | zero => rfl
  | succ k ih => rw [nodeB, List.length_append, ih, V3.by_length (el_ok h k)]; omega
/-- are the first k of them right? -/
def nodeR (ls : List V3) : Nat → Bool
  | 0 => true
  | k + 1 => nodeR ls k && (el ls k).right
theorem nodeR_le {ls : List V3} {k : Nat} (h : nodeR ls k = false) : ∀ m, k ≤ m → nodeR ls m = false := by
  intro m hm
  induction m with
  | zero => have : k = 0 := by omega
            subst this; exact h
  | succ m ih =>
    by_cases e : k = m + 1
    · subst e; exact h
    · rw [nodeR, ih (by omega)]; rfl
def nodeOK (ls : List V3) : Bool := decide (ls.length ≤ 3) && nodeR ls 3
def nodeL (ls : List V3) : List UInt8 := nodeB ls 3 ++ List.replicate 8 0
theorem nodeL_length {ls : List V3} (h : ∀ v ∈ ls, v.ok) : (nodeL ls).length = 128 := by simp [nodeL, nodeB_length h]
def nodeX (ls : List V3) : Array Value := if nodeOK ls then ((nodeL ls).map B).toArray else ZA
def nodeE (ls : List V3) : Int := if nodeOK ls then 0 else 1
theorem lay_node {ls : List V3} (h : ∀ v ∈ ls, v.ok) : lay ZA 0 ((nodeB ls 3).map B) = ((nodeL ls).map B).toArray := by
  apply Array.ext_getElem?
  intro i
  have hl := nodeB_length h 3
  have hz : ZA.size = 128 := by simp [ZA, Z128]
  have e1 : (((nodeL ls).map B).toArray)[i]? = ((nodeL ls).map B)[i]? := by simp
  have e2 : ZA[i]? = (List.replicate 128 (B 0))[i]? := by
    have : ZA = (List.replicate 128 (B 0)).toArray := by rw [ZA, Z128, List.map_replicate]
    rw [this]; simp
  rw [lay_get, List.length_map, hl, hz, e1, e2, nodeL, List.map_append, List.getElem?_append, List.length_map, hl, List.map_replicate]
  by_cases h1 : i < 120
  · rw [if_pos (by omega), if_pos (by omega)]; rfl
  · rw [if_neg (by omega), if_neg (by omega), List.getElem?_replicate, List.getElem?_replicate]
    by_cases h2 : i < 128
    · rw [if_pos h2, if_pos (by omega)]
    · rw [if_neg h2, if_neg (by omega)]
theorem infoB : (Tryd.prog.info? 22).map (·.size) = some 128 := by kernel_rfl
theorem ZA_one : ZA.all (·.oneCell') = true := by simp [ZA, Z128, B, Value.oneCell']
set_option maxHeartbeats 2000000 in
set_option maxRecDepth 100000 in
theorem node_many (A0 : Option Addr) (n c : Nat) (w : World) (hn : n ≤ 140737488351232) (h : 3 < n) :
    Calls Tryd.prog 26 #[.slice A0 n c] w fun e w' => e = .returned (.tuple #[.agg ZA, .int .i64 1]) ∧ Fr0 w w' := by
  have c0 : decide ((3 : Int) < n) = true := decide_eq_true (by omega)
  have hz : ∀ W, (zeroValue 22).run Tryd.prog W = .ok (.agg ZA) W := by intro W; kernel_rfl
  have HN : Hid (Bk (w.alloc (.cells ZA 22)) w.heap.size ZA 22) := Lib.hid (Bk.new w _)
  go_enter Tryd.func26, Tryd.ntmps26
  go_wp2_with (first | (refine PtrAsk.build_eq rfl 22 _ rfl ZA (by kernel_rfl) ?_) | (refine wpList_store_row rfl 22 _ _ rfl w.heap.size ZA rfl rfl 22 ZA HN.out infoB rfl ZA_one ?_))
  refine fin_ct w.heap.size 22 ZA (.int .i64 1) (by rfl) (by rfl) (by rfl) (by rfl) Tryd.underlying22 (by rfl) infoB (ArrKit.Bk.row HN.out _) ?_
  exact ⟨rfl, ArrKit.Fr.row (Fr.alloc (Fr.refl _ _) _) _ _ (.inl (Nat.le_refl _))⟩
set_option maxHeartbeats 2000000 in
set_option maxRecDepth 100000 in
theorem node_few (A0 : Option Addr) (n c : Nat) (ls : List V3) (w : World) (hl : ls.length = n) (hrd : RdV w A0 ls) (hok : ∀ v ∈ ls, v.ok) (hc : n ≤ c) (hcm : c ≤ 9223372036854775807) (hn : n ≤ 140737488351232) (h : n ≤ 3) :
    Calls Tryd.prog 26 #[.slice A0 n c] w fun e w' => e = .returned (.tuple #[.agg (if nodeR ls 3 then ((nodeL ls).map B).toArray else ZA), .int .i64 (if nodeR ls 3 then 0 else 1)]) ∧ Fr0 w w' := by
  have c0 : decide ((3 : Int) < n) = false := decide_eq_false (by omega)
  have hz : ∀ W, (zeroValue 22).run Tryd.prog W = .ok (.agg ZA) W := by intro W; kernel_rfl
  have hs1 : (w.alloc (.cells ZA 22)).heap.size = w.heap.size + 1 := by simp
  have HR0 : Hid (Bk ((w.alloc (.cells ZA 22)).alloc (.cells ZA 22)) w.heap.size ZA 22) := Lib.hid (Bk.alloc (Bk.new w _) _)
  have HG0 : Hid (Bk ((w.alloc (.cells ZA 22)).alloc (.cells ZA 22)) (w.heap.size + 1) ZA 22) := Lib.hid (by have := Bk.new (w.alloc (.cells ZA 22)) (.cells ZA 22); rwa [hs1] at this)
  have HF0 : Hid (Fr0 w ((w.alloc (.cells ZA 22)).alloc (.cells ZA 22))) := Lib.hid (Fr.alloc (Fr.alloc (Fr.refl _ _) _) _)
  have HD0 : Hid (RdV ((w.alloc (.cells ZA 22)).alloc (.cells ZA 22)) A0 ls) := Lib.hid (hrd.later HF0.out (fun _ _ h => h))
  have HL := Lib.hid hl
  have HOK := Lib.hid hok
  have hGr : w.heap.size + 1 ≠ w.heap.size := by omega
  have hwG : w.heap.size ≤ w.heap.size + 1 := by omega
  have HRD0 := Lib.hid hrd
  obtain ⟨RV, hRV, hvt, hvf⟩ : ∃ RV : Value, RV = .tuple #[.agg (if nodeR ls 3 then ((nodeL ls).map B).toArray else ZA), .int .i64 (if nodeR ls 3 then 0 else 1)] ∧ (nodeR ls 3 = true → RV = .tuple #[.agg ((nodeL ls).map B).toArray, .int .i64 0]) ∧ (nodeR ls 3 = false → RV = .tuple #[.agg ZA, .int .i64 1]) := ⟨_, rfl, fun h => by rw [h]; rfl, fun h => by rw [h]; rfl⟩
  rw [← hRV]
  have HVT := Lib.hid hvt
  have HVF := Lib.hid hvf
  clear hRV hvt hvf
  clear hs1 hrd hl hok
  go_enter Tryd.func26, Tryd.ntmps26
  go_wp2_with fail
  generalize (w.alloc (.cells ZA 22)).alloc (.cells ZA 22) = w0 at *
  generalize w.heap.size + 1 = G at *
  go_loopw [12] (fun u wr => ∃ k : Nat, k ≤ 3 ∧ u = .int .i64 k ∧ nodeR ls k = true ∧ Bk wr G (lay ZA 0 ((nodeB ls k).map B)) 22 ∧ Bk wr w.heap.size ZA 22 ∧ RdV wr A0 ls ∧ Fr0 w wr) (fun u _ => 3 - (intOf u).toNat)
  case atStart => exact ⟨0, by omega, rfl, rfl, HG0.out, HR0.out, HD0.out, HF0.out⟩
  case round =>
    obtain ⟨k, hk, rfl, hnr, hgk, hrk, hdk, hfk⟩ := hrel
    have HNR := Lib.hid hnr
    have HGK := Lib.hid hgk
    have HRK := Lib.hid hrk
    have HDK := Lib.hid hdk
    have HFK := Lib.hid hfk
    clear hnr hgk hrk hdk hfk
    by_cases hlt : k < 3
    · have c9 : decide ((k : Int) < 3) = true := decide_eq_true (by omega)
      have HLT := Lib.hid hlt
      clear hlt hk
      have hve := el_ok HOK.out k
      have HIV : Hid ((Tryd.prog.info? 26).map (·.size) = some (el ls k).pc.length) := Lib.hid (by rw [info_p, V3.pc, PC_length, hve.len])
      have HIVa : Hid ((Tryd.prog.info? 26).map (·.size) = some (el ls k).pc.toArray.size) := Lib.hid (by rw [info_p, List.size_toArray, V3.pc, PC_length, hve.len])
      have HZV : Hid (HOLE.size = (el ls k).pc.toArray.size) := Lib.hid (HOLE_size.trans (by rw [List.size_toArray, V3.pc, PC_length, hve.len]))
      have HVO : Hid ((el ls k).pc.toArray.all (·.oneCell') = true) := Lib.hid (by simp [V3.pc, PC, B, Value.oneCell'])
      have HPW : Hid (∀ W : World, (el ls k).right = false → Calls Tryd.prog 23 #[.slice (some ⟨G, 0, none⟩) 128 128, .int .i64 (40 * (k : Int)), .agg (el ls k).pc.toArray] W fun e w' => e = .returned (.int .i64 1) ∧ Fr0 W w') := Lib.hid (fun W hr => by
        have := PtrPut.put_wrong G 0 128 128 (40 * k) (el ls k).a (el ls k).b (el ls k).s W hve.len hve.wa hve.wb (by omega) (by omega) (by omega) (by have := HLT.out; omega) hr
        rw [show ((40 * k : Nat) : Int) = 40 * (k : Int) by omega] at this
        exact this)
      have HPF : Hid (∀ W : World, (el ls k).right = true → Bk W G (lay ZA 0 ((nodeB ls k).map B)) 22 → Calls Tryd.prog 23 #[.slice (some ⟨G, 0, none⟩) 128 128, .int .i64 (40 * (k : Int)), .agg (el ls k).pc.toArray] W fun e w' => e = .returned (.int .i64 0) ∧ Bk w' G (lay ZA 0 ((nodeB ls (k + 1)).map B)) 22 ∧ Fr (· = G) W w') := Lib.hid (fun W hr hb => by
        have := PtrPut.put_fits G 0 128 128 (40 * k) (el ls k).a (el ls k).b (el ls k).s _ 22 W hve.len hve.wa hve.wb hb (by rw [lay_size]; decide) (by omega) (by omega) (by omega) (by have := HLT.out; omega) hr
        rw [show nodeB ls (k + 1) = nodeB ls k ++ (el ls k).by from rfl, List.map_append, PtrPut.WL.lay_append, List.length_map, nodeB_length HOK.out]
        rw [show ((40 * k : Nat) : Int) = 40 * (k : Int) by omega] at this
        exact this)
      by_cases hkn : k < n
      · have c8 : decide (k < n) = true := decide_eq_true hkn
        have c7 : (k : Int) < n := by omega
        obtain ⟨b0, o0, rfl, hrg⟩ := HDK.out k (by rw [HL.out]; exact hkn)
        rw [← el_in] at hrg
        have HRG : Hid (∀ W : World, Fr0 wr W → W.rangeAt b0 (o0 + k * 34) (el ls k).pc) := Lib.hid (fun W f j v hj => by
          have hc := hrg j v hj
          rw [f.cell b0 _ (World.block_lt_of_cell? wr _ hc) (fun h => h)]
          exact hc)
        clear hrg hkn hve
        go_wp2_with (first | (go_at_call 12; (with_reducible refine (hole_calls _).mono ?_); rintro e w1 ⟨rfl, hf1⟩; have HFW1 := Lib.hid hf1; have HG1 := Lib.hid (hf1.keep HGK.out (fun h => h)); have HR1 := Lib.hid (hf1.keep HRK.out (fun h => h)); have HD1 := Lib.hid (HDK.out.later hf1 (fun _ _ h => h)); have HF1 := Lib.hid (HFK.out.then0 hf1); have HJ1 : Hid (Bk (w1.alloc (.cells ZERO 26)) w1.heap.size ZERO 26) := Lib.hid (Bk.new _ _); clear hf1) | (refine wpList_store_row rfl 26 _ _ rfl w1.heap.size HOLE rfl rfl 26 ZERO HJ1.out info_p rfl HOLE_one ?_; change wpList _ _ _ _ _ ((w1.alloc (.cells ZERO 26)).setRow w1.heap.size HOLE); have HJ2 : Hid (Bk ((w1.alloc (.cells ZERO 26)).setRow w1.heap.size HOLE) w1.heap.size HOLE 26) := Lib.hid (ArrKit.Bk.row HJ1.out _); have HF12 : Hid (Fr0 w1 ((w1.alloc (.cells ZERO 26)).setRow w1.heap.size HOLE)) := Lib.hid (ArrKit.Fr.row (Fr.alloc (Fr.refl _ _) _) _ _ (.inl (Nat.le_refl _))); generalize (w1.alloc (.cells ZERO 26)).setRow w1.heap.size HOLE = w2 at *) | (refine wpList_load_mid rfl 26 _ rfl b0 (o0 + k * 34) rfl (el ls k).pc _ (HRG.out _ (HFW1.out.then0 HF12.out)) Tryd.underlying26 rfl HIV.out ?_) | (refine wpList_store_row rfl 26 _ _ rfl w1.heap.size (el ls k).pc.toArray rfl rfl 26 HOLE HJ2.out HIVa.out HZV.out HVO.out ?_; change wpList _ _ _ _ _ (w2.setRow w1.heap.size (el ls k).pc.toArray); have HJ3 : Hid (Bk (w2.setRow w1.heap.size (el ls k).pc.toArray) w1.heap.size (el ls k).pc.toArray 26) := Lib.hid (ArrKit.Bk.row HJ2.out _); have HF13 : Hid (Fr0 w1 (w2.setRow w1.heap.size (el ls k).pc.toArray)) := Lib.hid (ArrKit.Fr.row HF12.out _ _ (.inl (Nat.le_refl _))); generalize w2.setRow w1.heap.size (el ls k).pc.toArray = w3 at *))
        try simp only [Act.put, List.setIfInBounds_toArray, List.set_cons_zero, List.set_cons_succ]
        have H3 : Hid (Held w [(w1.heap.size, .cells (el ls k).pc.toArray 26 (0, 0))] w3) := Lib.hid (Held.cons HJ3.out (Held.nil (HF1.out.then0 HF13.out)))
        have HR3d : Hid (Bk w3.drew w.heap.size ZA 22) := Lib.hid (HF13.out.keep HR1.out (fun h => h))
        have HG3d : Hid (Bk w3.drew G (lay ZA 0 ((nodeB ls k).map B)) 22) := Lib.hid (HF13.out.keep HG1.out (fun h => h))
        have HD3d : Hid (RdV w3.drew _ ls) := Lib.hid (HD1.out.later HF13.out.drew (fun _ _ h => h))
        have HJG : Hid (G < w1.heap.size) := Lib.hid (Bk.lt HG1.out)
        have hw40 : Hid (IntKind.i64.wrap (40 * (k : Int)) = 40 * (k : Int)) := Lib.hid (by have := HLT.out; simp [IntKind.wrap, IntKind.bits, IntKind.signed]; omega)
        cases hri : (el ls k).right with
        | false =>
          refine wp_region_noPanic ?_
          refine wp_region_held_drew (S := (Held w [(w1.heap.size, .cells (el ls k).pc.toArray 26 (0, 0))])) (by kernel_rfl) (Held.drew H3.out) (fun hHeld0 => ?_)
          change wpAnyH _ _ _ _ _ 6 #[false, false, false, false, false, false] _ _
          refine wpAnyH_take (i := 0) (v := .slice (some ⟨G, 0, none⟩) 128 128) rfl (by kernel_rfl) (by kernel_rfl) (by kernel_rfl) (fun _ _ _ h => h) (Or.inl ⟨by kernel_rfl, fun w hSw => by kernel_rfl⟩) hHeld0 ?_
          simp only [Act.put, List.getElem_toArray, List.getElem_cons_succ, List.getElem_cons_zero, List.setIfInBounds_toArray, List.set_cons_zero, List.set_cons_succ]
          change wpAnyH _ _ _ _ _ 5 #[true, false, false, false, false, false] _ _
          refine wpAnyH_take (i := 1) (v := .int .i64 (k : Int)) rfl (by kernel_rfl) (by kernel_rfl) (by kernel_rfl) (fun _ _ _ h => h) (Or.inl ⟨by kernel_rfl, fun w hSw => by first | kernel_rfl | (go_simp; done)⟩) hHeld0 ?_
          simp only [Act.put, List.getElem_toArray, List.getElem_cons_succ, List.getElem_cons_zero, List.setIfInBounds_toArray, List.set_cons_zero, List.set_cons_succ]
          change wpAnyH _ _ _ _ _ 4 #[true, true, false, false, false, false] _ _
          refine wpAnyH_take (i := 2) (v := .int .i64 (40 * (k : Int))) rfl (by kernel_rfl) (by kernel_rfl) (by kernel_rfl) (fun _ _ _ h => h) (Or.inl ⟨by kernel_rfl, fun w hSw => by have h4 := hw40.out; go_simp <;> first | exact h4 | omega⟩) hHeld0 ?_
          simp only [Act.put, List.getElem_toArray, List.getElem_cons_succ, List.getElem_cons_zero, List.setIfInBounds_toArray, List.set_cons_zero, List.set_cons_succ]
          change wpAnyH _ _ _ _ _ 3 #[true, true, true, false, false, false] _ _
          refine wpAnyH_take (i := 3) (v := .agg (el ls k).pc.toArray) rfl (by kernel_rfl) (by kernel_rfl) (by kernel_rfl) (fun _ _ _ h => h) (yields_row (by kernel_rfl) 26 _ rfl (w1.heap.size) rfl 26 (el ls k).pc.toArray (0, 0) _ (fun w h => Held.a0 h) Tryd.underlying26 rfl HIVa.out) hHeld0 ?_
          simp only [Act.put, List.getElem_toArray, List.getElem_cons_succ, List.getElem_cons_zero, List.setIfInBounds_toArray, List.set_cons_zero, List.set_cons_succ]
          change wpAnyH _ _ _ _ _ 2 #[true, true, true, true, false, false] _ _
          refine wpAnyH_ready (rs := [4]) (by kernel_rfl) (by simp) ?_
          refine AllReadyH.cons rfl (fun K hK => ?_) AllReadyH.nil
          simp only [List.getElem_toArray, List.getElem_cons_succ, List.getElem_cons_zero]
          refine (if_pos (by kernel_rfl)).mpr ?_
          go_wp2_with fail
          refine (HPW.out _ hri).mono ?_
          rintro e wx0 ⟨rfl, hfx0⟩
          dsimp only
          have HR4 := Lib.hid (hfx0.keep HR3d.out (fun h => h))
          refine hK.out _ _ (Held.keep hfx0 hHeld0) (fun hHeld1 => ?_)
          clear hK K hHeld0
          change wpAnyH _ _ _ _ _ 1 #[true, true, true, true, true, false] _ _
          refine wpAnyH_take (i := 5) (v := .int .i64 1) rfl (by kernel_rfl) (by kernel_rfl) (by kernel_rfl) (fun _ _ _ h => h) (Or.inl ⟨by kernel_rfl, fun w hSw => by first | kernel_rfl | (go_simp; done)⟩) hHeld1 ?_
          simp only [Act.put, List.getElem_toArray, List.getElem_cons_succ, List.getElem_cons_zero, List.setIfInBounds_toArray, List.set_cons_zero, List.set_cons_succ]
          change wpAnyH _ _ _ _ _ 0 #[true, true, true, true, true, true] _ _
          refine wpAnyH_done (by kernel_rfl) ?_ _
          refine NoPanic.normal ?_
          have HFIN := Lib.hid (Held.f hHeld1)
          have HEND := Lib.hid hHeld1
          clear hHeld1
          have hr3 : nodeR ls 3 = false := nodeR_le (k := k + 1) (by rw [nodeR, HNR.out, hri]; rfl) 3 (by have := HLT.out; omega)
          have HR3f := Lib.hid hr3
          clear hr3 hri
          go_wp2_with (first | (refine PtrAsk.build_eq rfl 22 _ rfl ZA (by kernel_rfl) ?_) | (refine wpList_store_row rfl 22 _ _ rfl w.heap.size ZA rfl rfl 22 ZA HR4.out infoB rfl ZA_one ?_))
          refine fin_ct w.heap.size 22 ZA (.int .i64 1) (by rfl) (by rfl) (by rfl) (by rfl) Tryd.underlying22 (by rfl) infoB (ArrKit.Bk.row HR4.out _) ?_
          exact ⟨by rw [HVF.out HR3f.out], ArrKit.Fr.row HFIN.out _ _ (.inl (Nat.le_refl _))⟩
        | true =>
          refine wp_region_noPanic ?_
          refine wp_region_held_drew (S := (Held w [(w1.heap.size, .cells (el ls k).pc.toArray 26 (0, 0))])) (by kernel_rfl) (Held.drew H3.out) (fun hHeld0 => ?_)
          change wpAnyH _ _ _ _ _ 6 #[false, false, false, false, false, false] _ _
          refine wpAnyH_take (i := 0) (v := .slice (some ⟨G, 0, none⟩) 128 128) rfl (by kernel_rfl) (by kernel_rfl) (by kernel_rfl) (fun _ _ _ h => h) (Or.inl ⟨by kernel_rfl, fun w hSw => by kernel_rfl⟩) hHeld0 ?_
          simp only [Act.put, List.getElem_toArray, List.getElem_cons_succ, List.getElem_cons_zero, List.setIfInBounds_toArray, List.set_cons_zero, List.set_cons_succ]
          change wpAnyH _ _ _ _ _ 5 #[true, false, false, false, false, false] _ _
          refine wpAnyH_take (i := 1) (v := .int .i64 (k : Int)) rfl (by kernel_rfl) (by kernel_rfl) (by kernel_rfl) (fun _ _ _ h => h) (Or.inl ⟨by kernel_rfl, fun w hSw => by first | kernel_rfl | (go_simp; done)⟩) hHeld0 ?_
          simp only [Act.put, List.getElem_toArray, List.getElem_cons_succ, List.getElem_cons_zero, List.setIfInBounds_toArray, List.set_cons_zero, List.set_cons_succ]
          change wpAnyH _ _ _ _ _ 4 #[true, true, false, false, false, false] _ _
          refine wpAnyH_take (i := 2) (v := .int .i64 (40 * (k : Int))) rfl (by kernel_rfl) (by kernel_rfl) (by kernel_rfl) (fun _ _ _ h => h) (Or.inl ⟨by kernel_rfl, fun w hSw => by have h4 := hw40.out; go_simp <;> first | exact h4 | omega⟩) hHeld0 ?_
          simp only [Act.put, List.getElem_toArray, List.getElem_cons_succ, List.getElem_cons_zero, List.setIfInBounds_toArray, List.set_cons_zero, List.set_cons_succ]
          change wpAnyH _ _ _ _ _ 3 #[true, true, true, false, false, false] _ _
          refine wpAnyH_take (i := 3) (v := .agg (el ls k).pc.toArray) rfl (by kernel_rfl) (by kernel_rfl) (by kernel_rfl) (fun _ _ _ h => h) (yields_row (by kernel_rfl) 26 _ rfl (w1.heap.size) rfl 26 (el ls k).pc.toArray (0, 0) _ (fun w h => Held.a0 h) Tryd.underlying26 rfl HIVa.out) hHeld0 ?_
          simp only [Act.put, List.getElem_toArray, List.getElem_cons_succ, List.getElem_cons_zero, List.setIfInBounds_toArray, List.set_cons_zero, List.set_cons_succ]
          change wpAnyH _ _ _ _ _ 2 #[true, true, true, true, false, false] _ _
          refine wpAnyH_ready (rs := [4]) (by kernel_rfl) (by simp) ?_
          refine AllReadyH.cons rfl (fun K hK => ?_) AllReadyH.nil
          simp only [List.getElem_toArray, List.getElem_cons_succ, List.getElem_cons_zero]
          refine (if_pos (by kernel_rfl)).mpr ?_
          go_wp2_with fail
          refine (HPF.out _ hri HG3d.out).mono ?_
          rintro e wx0 ⟨rfl, hgx, hfx0⟩
          dsimp only
          have HG4 := Lib.hid hgx
          have HR4 := Lib.hid (hfx0.keep HR3d.out (Ne.symm hGr))
          have HD4 := Lib.hid (RdV.past HRD0.out HD3d.out hfx0 (fun b hb e => by have := hwG; omega))
          clear hgx
          refine hK.out _ _ (⟨fun r hr => by rw [List.mem_singleton.1 hr]; exact hfx0.keep (Held.a0 hHeld0) (show ¬ _ = G by have := HJG.out; omega), (Held.f hHeld0).then hfx0 (fun i hi e => by have := hwG; omega)⟩) (fun hHeld1 => ?_)
          clear hK K hHeld0
          change wpAnyH _ _ _ _ _ 1 #[true, true, true, true, true, false] _ _
          refine wpAnyH_take (i := 5) (v := .int .i64 0) rfl (by kernel_rfl) (by kernel_rfl) (by kernel_rfl) (fun _ _ _ h => h) (Or.inl ⟨by kernel_rfl, fun w hSw => by first | kernel_rfl | (go_simp; done)⟩) hHeld1 ?_
          simp only [Act.put, List.getElem_toArray, List.getElem_cons_succ, List.getElem_cons_zero, List.setIfInBounds_toArray, List.set_cons_zero, List.set_cons_succ]
          change wpAnyH _ _ _ _ _ 0 #[true, true, true, true, true, true] _ _
          refine wpAnyH_done (by kernel_rfl) ?_ _
          refine NoPanic.normal ?_
          have HFIN := Lib.hid (Held.f hHeld1)
          have HEND := Lib.hid hHeld1
          clear hHeld1
          have HNK : Hid (nodeR ls (k + 1) = true) := Lib.hid (by rw [nodeR, HNR.out, hri]; rfl)
          clear hri
          have hk3 : (k : Int) < 3 := by have := HLT.out; omega
          go_wp2
          exact ⟨⟨k + 1, by have := HLT.out; omega, by go_num, HNK.out, HG4.out, HR4.out, HD4.out, HFIN.out⟩, by have := HLT.out; simp [intOf]; omega⟩
      · have c8 : decide (k < n) = false := decide_eq_false hkn
        have c7 : decide ((k : Int) < n) = false := decide_eq_false (by omega)
        have HEL : Hid (el ls k = hol) := Lib.hid (el_out (by rw [HL.out]; omega))
        clear hkn hve
        go_wp2_with (first | (go_at_call 12; (with_reducible refine (hole_calls _).mono ?_); rintro e w1 ⟨rfl, hf1⟩; have HFW1 := Lib.hid hf1; have HG1 := Lib.hid (hf1.keep HGK.out (fun h => h)); have HR1 := Lib.hid (hf1.keep HRK.out (fun h => h)); have HD1 := Lib.hid (HDK.out.later hf1 (fun _ _ h => h)); have HF1 := Lib.hid (HFK.out.then0 hf1); have HJ1 : Hid (Bk (w1.alloc (.cells ZERO 26)) w1.heap.size ZERO 26) := Lib.hid (Bk.new _ _); clear hf1) | (refine wpList_store_row rfl 26 _ _ rfl w1.heap.size HOLE rfl rfl 26 ZERO HJ1.out info_p rfl HOLE_one ?_; change wpList _ _ _ _ _ ((w1.alloc (.cells ZERO 26)).setRow w1.heap.size HOLE); have HJ2 : Hid (Bk ((w1.alloc (.cells ZERO 26)).setRow w1.heap.size HOLE) w1.heap.size HOLE 26) := Lib.hid (ArrKit.Bk.row HJ1.out _); have HF12 : Hid (Fr0 w1 ((w1.alloc (.cells ZERO 26)).setRow w1.heap.size HOLE)) := Lib.hid (ArrKit.Fr.row (Fr.alloc (Fr.refl _ _) _) _ _ (.inl (Nat.le_refl _))); generalize (w1.alloc (.cells ZERO 26)).setRow w1.heap.size HOLE = w2 at *))
        have HJ3 : Hid (Bk w2 w1.heap.size (el ls k).pc.toArray 26) := Lib.hid (by rw [HEL.out]; exact HJ2.out)
        have HF13 := HF12
        obtain ⟨w3, rfl⟩ : ∃ w3, w3 = w2 := ⟨_, rfl⟩
        try simp only [Act.put, List.setIfInBounds_toArray, List.set_cons_zero, List.set_cons_succ]
        have H3 : Hid (Held w [(w1.heap.size, .cells (el ls k).pc.toArray 26 (0, 0))] w3) := Lib.hid (Held.cons HJ3.out (Held.nil (HF1.out.then0 HF13.out)))
        have HR3d : Hid (Bk w3.drew w.heap.size ZA 22) := Lib.hid (HF13.out.keep HR1.out (fun h => h))
        have HG3d : Hid (Bk w3.drew G (lay ZA 0 ((nodeB ls k).map B)) 22) := Lib.hid (HF13.out.keep HG1.out (fun h => h))
        have HD3d : Hid (RdV w3.drew _ ls) := Lib.hid (HD1.out.later HF13.out.drew (fun _ _ h => h))
        have HJG : Hid (G < w1.heap.size) := Lib.hid (Bk.lt HG1.out)
        have hw40 : Hid (IntKind.i64.wrap (40 * (k : Int)) = 40 * (k : Int)) := Lib.hid (by have := HLT.out; simp [IntKind.wrap, IntKind.bits, IntKind.signed]; omega)
        cases hri : (el ls k).right with
        | false =>
          refine wp_region_noPanic ?_
          refine wp_region_held_drew (S := (Held w [(w1.heap.size, .cells (el ls k).pc.toArray 26 (0, 0))])) (by kernel_rfl) (Held.drew H3.out) (fun hHeld0 => ?_)
          change wpAnyH _ _ _ _ _ 6 #[false, false, false, false, false, false] _ _
          refine wpAnyH_take (i := 0) (v := .slice (some ⟨G, 0, none⟩) 128 128) rfl (by kernel_rfl) (by kernel_rfl) (by kernel_rfl) (fun _ _ _ h => h) (Or.inl ⟨by kernel_rfl, fun w hSw => by kernel_rfl⟩) hHeld0 ?_
          simp only [Act.put, List.getElem_toArray, List.getElem_cons_succ, List.getElem_cons_zero, List.setIfInBounds_toArray, List.set_cons_zero, List.set_cons_succ]
          change wpAnyH _ _ _ _ _ 5 #[true, false, false, false, false, false] _ _
          refine wpAnyH_take (i := 1) (v := .int .i64 (k : Int)) rfl (by kernel_rfl) (by kernel_rfl) (by kernel_rfl) (fun _ _ _ h => h) (Or.inl ⟨by kernel_rfl, fun w hSw => by first | kernel_rfl | (go_simp; done)⟩) hHeld0 ?_
          simp only [Act.put, List.getElem_toArray, List.getElem_cons_succ, List.getElem_cons_zero, List.setIfInBounds_toArray, List.set_cons_zero, List.set_cons_succ]
          change wpAnyH _ _ _ _ _ 4 #[true, true, false, false, false, false] _ _
          refine wpAnyH_take (i := 2) (v := .int .i64 (40 * (k : Int))) rfl (by kernel_rfl) (by kernel_rfl) (by kernel_rfl) (fun _ _ _ h => h) (Or.inl ⟨by kernel_rfl, fun w hSw => by have h4 := hw40.out; go_simp <;> first | exact h4 | omega⟩) hHeld0 ?_
          simp only [Act.put, List.getElem_toArray, List.getElem_cons_succ, List.getElem_cons_zero, List.setIfInBounds_toArray, List.set_cons_zero, List.set_cons_succ]
          change wpAnyH _ _ _ _ _ 3 #[true, true, true, false, false, false] _ _
          refine wpAnyH_take (i := 3) (v := .agg (el ls k).pc.toArray) rfl (by kernel_rfl) (by kernel_rfl) (by kernel_rfl) (fun _ _ _ h => h) (yields_row (by kernel_rfl) 26 _ rfl (w1.heap.size) rfl 26 (el ls k).pc.toArray (0, 0) _ (fun w h => Held.a0 h) Tryd.underlying26 rfl HIVa.out) hHeld0 ?_
          simp only [Act.put, List.getElem_toArray, List.getElem_cons_succ, List.getElem_cons_zero, List.setIfInBounds_toArray, List.set_cons_zero, List.set_cons_succ]
          change wpAnyH _ _ _ _ _ 2 #[true, true, true, true, false, false] _ _
          refine wpAnyH_ready (rs := [4]) (by kernel_rfl) (by simp) ?_
          refine AllReadyH.cons rfl (fun K hK => ?_) AllReadyH.nil
          simp only [List.getElem_toArray, List.getElem_cons_succ, List.getElem_cons_zero]
          refine (if_pos (by kernel_rfl)).mpr ?_
          go_wp2_with fail
          refine (HPW.out _ hri).mono ?_
          rintro e wx0 ⟨rfl, hfx0⟩
          dsimp only
          have HR4 := Lib.hid (hfx0.keep HR3d.out (fun h => h))
          refine hK.out _ _ (Held.keep hfx0 hHeld0) (fun hHeld1 => ?_)
          clear hK K hHeld0
          change wpAnyH _ _ _ _ _ 1 #[true, true, true, true, true, false] _ _
          refine wpAnyH_take (i := 5) (v := .int .i64 1) rfl (by kernel_rfl) (by kernel_rfl) (by kernel_rfl) (fun _ _ _ h => h) (Or.inl ⟨by kernel_rfl, fun w hSw => by first | kernel_rfl | (go_simp; done)⟩) hHeld1 ?_
          simp only [Act.put, List.getElem_toArray, List.getElem_cons_succ, List.getElem_cons_zero, List.setIfInBounds_toArray, List.set_cons_zero, List.set_cons_succ]
          change wpAnyH _ _ _ _ _ 0 #[true, true, true, true, true, true] _ _
          refine wpAnyH_done (by kernel_rfl) ?_ _
          refine NoPanic.normal ?_
          have HFIN := Lib.hid (Held.f hHeld1)
          have HEND := Lib.hid hHeld1
          clear hHeld1
          have hr3 : nodeR ls 3 = false := nodeR_le (k := k + 1) (by rw [nodeR, HNR.out, hri]; rfl) 3 (by have := HLT.out; omega)
          have HR3f := Lib.hid hr3
          clear hr3 hri
          go_wp2_with (first | (refine PtrAsk.build_eq rfl 22 _ rfl ZA (by kernel_rfl) ?_) | (refine wpList_store_row rfl 22 _ _ rfl w.heap.size ZA rfl rfl 22 ZA HR4.out infoB rfl ZA_one ?_))
          refine fin_ct w.heap.size 22 ZA (.int .i64 1) (by rfl) (by rfl) (by rfl) (by rfl) Tryd.underlying22 (by rfl) infoB (ArrKit.Bk.row HR4.out _) ?_
          exact ⟨by rw [HVF.out HR3f.out], ArrKit.Fr.row HFIN.out _ _ (.inl (Nat.le_refl _))⟩
        | true =>
          refine wp_region_noPanic ?_
          refine wp_region_held_drew (S := (Held w [(w1.heap.size, .cells (el ls k).pc.toArray 26 (0, 0))])) (by kernel_rfl) (Held.drew H3.out) (fun hHeld0 => ?_)
          change wpAnyH _ _ _ _ _ 6 #[false, false, false, false, false, false] _ _
          refine wpAnyH_take (i := 0) (v := .slice (some ⟨G, 0, none⟩) 128 128) rfl (by kernel_rfl) (by kernel_rfl) (by kernel_rfl) (fun _ _ _ h => h) (Or.inl ⟨by kernel_rfl, fun w hSw => by kernel_rfl⟩) hHeld0 ?_
          simp only [Act.put, List.getElem_toArray, List.getElem_cons_succ, List.getElem_cons_zero, List.setIfInBounds_toArray, List.set_cons_zero, List.set_cons_succ]
          change wpAnyH _ _ _ _ _ 5 #[true, false, false, false, false, false] _ _
          refine wpAnyH_take (i := 1) (v := .int .i64 (k : Int)) rfl (by kernel_rfl) (by kernel_rfl) (by kernel_rfl) (fun _ _ _ h => h) (Or.inl ⟨by kernel_rfl, fun w hSw => by first | kernel_rfl | (go_simp; done)⟩) hHeld0 ?_
          simp only [Act.put, List.getElem_toArray, List.getElem_cons_succ, List.getElem_cons_zero, List.setIfInBounds_toArray, List.set_cons_zero, List.set_cons_succ]
          change wpAnyH _ _ _ _ _ 4 #[true, true, false, false, false, false] _ _
          refine wpAnyH_take (i := 2) (v := .int .i64 (40 * (k : Int))) rfl (by kernel_rfl) (by kernel_rfl) (by kernel_rfl) (fun _ _ _ h => h) (Or.inl ⟨by kernel_rfl, fun w hSw => by have h4 := hw40.out; go_simp <;> first | exact h4 | omega⟩) hHeld0 ?_
          simp only [Act.put, List.getElem_toArray, List.getElem_cons_succ, List.getElem_cons_zero, List.setIfInBounds_toArray, List.set_cons_zero, List.set_cons_succ]
          change wpAnyH _ _ _ _ _ 3 #[true, true, true, false, false, false] _ _
          refine wpAnyH_take (i := 3) (v := .agg (el ls k).pc.toArray) rfl (by kernel_rfl) (by kernel_rfl) (by kernel_rfl) (fun _ _ _ h => h) (yields_row (by kernel_rfl) 26 _ rfl (w1.heap.size) rfl 26 (el ls k).pc.toArray (0, 0) _ (fun w h => Held.a0 h) Tryd.underlying26 rfl HIVa.out) hHeld0 ?_
          simp only [Act.put, List.getElem_toArray, List.getElem_cons_succ, List.getElem_cons_zero, List.setIfInBounds_toArray, List.set_cons_zero, List.set_cons_succ]
          change wpAnyH _ _ _ _ _ 2 #[true, true, true, true, false, false] _ _
          refine wpAnyH_ready (rs := [4]) (by kernel_rfl) (by simp) ?_
          refine AllReadyH.cons rfl (fun K hK => ?_) AllReadyH.nil
          simp only [List.getElem_toArray, List.getElem_cons_succ, List.getElem_cons_zero]
          refine (if_pos (by kernel_rfl)).mpr ?_
          go_wp2_with fail
          refine (HPF.out _ hri HG3d.out).mono ?_
          rintro e wx0 ⟨rfl, hgx, hfx0⟩
          dsimp only
          have HG4 := Lib.hid hgx
          have HR4 := Lib.hid (hfx0.keep HR3d.out (Ne.symm hGr))
          have HD4 := Lib.hid (RdV.past HRD0.out HD3d.out hfx0 (fun b hb e => by have := hwG; omega))
          clear hgx
          refine hK.out _ _ (⟨fun r hr => by rw [List.mem_singleton.1 hr]; exact hfx0.keep (Held.a0 hHeld0) (show ¬ _ = G by have := HJG.out; omega), (Held.f hHeld0).then hfx0 (fun i hi e => by have := hwG; omega)⟩) (fun hHeld1 => ?_)
          clear hK K hHeld0
          change wpAnyH _ _ _ _ _ 1 #[true, true, true, true, true, false] _ _
          refine wpAnyH_take (i := 5) (v := .int .i64 0) rfl (by kernel_rfl) (by kernel_rfl) (by kernel_rfl) (fun _ _ _ h => h) (Or.inl ⟨by kernel_rfl, fun w hSw => by first | kernel_rfl | (go_simp; done)⟩) hHeld1 ?_
          simp only [Act.put, List.getElem_toArray, List.getElem_cons_succ, List.getElem_cons_zero, List.setIfInBounds_toArray, List.set_cons_zero, List.set_cons_succ]
          change wpAnyH _ _ _ _ _ 0 #[true, true, true, true, true, true] _ _
          refine wpAnyH_done (by kernel_rfl) ?_ _
          refine NoPanic.normal ?_
          have HFIN := Lib.hid (Held.f hHeld1)
          have HEND := Lib.hid hHeld1
          clear hHeld1
          have HNK : Hid (nodeR ls (k + 1) = true) := Lib.hid (by rw [nodeR, HNR.out, hri]; rfl)
          clear hri
          have hk3 : (k : Int) < 3 := by have := HLT.out; omega
          go_wp2
          exact ⟨⟨k + 1, by have := HLT.out; omega, by go_num, HNK.out, HG4.out, HR4.out, HD4.out, HFIN.out⟩, by have := HLT.out; simp [intOf]; omega⟩
    · have c9 : decide ((k : Int) < 3) = false := decide_eq_false (by omega)
      obtain rfl : k = 3 := by omega
      have HGF : Hid (Bk wr G ((nodeL ls).map B).toArray 22) := Lib.hid (by
        have := HGK.out
        rw [lay_node HOK.out] at this
        exact this)
      have HIB : Hid ((Tryd.prog.info? 22).map (·.size) = some ((nodeL ls).map B).toArray.size) := Lib.hid (by rw [List.size_toArray, List.length_map, nodeL_length HOK.out]; kernel_rfl)
      have HZB : Hid (ZA.size = ((nodeL ls).map B).toArray.size) := Lib.hid ((show ZA.size = 128 by simp [ZA, Z128]).trans (by rw [List.size_toArray, List.length_map, nodeL_length HOK.out]))
      have HOB : Hid (((nodeL ls).map B).toArray.all (·.oneCell') = true) := Lib.hid (by simp [B, Value.oneCell'])
      clear hlt hk HGK
      go_wp2_with (first | (refine wpList_load_row rfl 22 _ rfl G rfl 22 ((nodeL ls).map B).toArray (0, 0) _ HGF.out Tryd.underlying22 rfl HIB.out ?_) | (refine wpList_store_row rfl 22 _ _ rfl w.heap.size ((nodeL ls).map B).toArray rfl rfl 22 ZA HRK.out HIB.out HZB.out HOB.out ?_))
      refine fin_ct w.heap.size 22 ((nodeL ls).map B).toArray (.int .i64 0) (by rfl) (by rfl) (by rfl) (by rfl) Tryd.underlying22 (by rfl) HIB.out (ArrKit.Bk.row HRK.out _) ?_
      exact ⟨by rw [HVT.out HNR.out], ArrKit.Fr.row HFK.out _ _ (.inl (Nat.le_refl _))⟩

/-- NODE: what ptr.Node answers. -/
theorem node_calls (A0 : Option Addr) (n c : Nat) (ls : List V3) (w : World) (hl : ls.length = n) (hrd : RdV w A0 ls) (hok : ∀ v ∈ ls, v.ok) (hc : n ≤ c) (hcm : c ≤ 9223372036854775807) (hn : n ≤ 140737488351232) :
    Calls Tryd.prog 26 #[.slice A0 n c] w fun e w' => e = .returned (.tuple #[.agg (nodeX ls), .int .i64 (nodeE ls)]) ∧ Fr0 w w' := by
  unfold nodeX nodeE nodeOK
  by_cases h : n ≤ 3
  · rw [decide_eq_true (show ls.length ≤ 3 by omega), Bool.true_and]
    exact node_few A0 n c ls w hl hrd hok hc hcm hn h
  · rw [decide_eq_false (show ¬ ls.length ≤ 3 by omega), Bool.false_and]
    exact node_many A0 n c w hn (by omega)

end Go.Proofs.YtjkaenhopkigdaaDoor.PtrNode
