/- The theorems that the claim uses, text behind text (part 16). -/
import Derived.Test.YtmkmpfnadcmcoaaGreatDoorYad
import Derived.Test.YtmkmpfnadcmcoaaGreatDoorYao
set_option maxRecDepth 100000
set_option maxHeartbeats 8000000
set_option linter.unusedVariables false
set_option linter.unusedSimpArgs false
namespace Go.Proofs.YtmkmpfnadcmcoaaGreatDoor.DiskRead
open Go Go.RowKit K EqKit ArrKit HeldKit GKit GRow DiskKit RfKit DiskAsk DiskForm DiskAct DiskNew DiskCopy DiskLay DiskRRead DiskBack
attribute [local go_sem] Oper.semAt_some
theorem results_rc {P : Program} {fn : Func} {p q : Tmp} {ty uy : TypeId} (h : fn.results = #[.cell p ty, .cell q uy]) (tmps : Array Value) (w : World) (g g' : Nat) (t : TypeId) (cs : Array Value) (fr : Nat × Nat) (d : TypeDesc) (x : Value) (k : IntKind)
  (hp : tmps.getD p undef = .pointer (some ⟨g, 0, none⟩)) (hq : tmps.getD q undef = .pointer (some ⟨g', 0, none⟩)) (hg : w.heap[g]? = some (.cells cs t fr)) (hx : w.cell? ⟨g', 0, none⟩ = some x)
  (hu : P.underlying ty = some d) (hd : (match d with | .struct _ | .array _ _ => true | _ => false) = true) (hi : (P.info? ty).map (·.size) = some cs.size) (hk : P.underlying uy = some (.int k)) :
  (results fn tmps).run P w = .ok (.tuple #[.agg cs, x]) w := by
 have hp' : tmps[p]?.getD undef = .pointer (some ⟨g, 0, none⟩) := by simpa using hp
 have hq' : tmps[q]?.getD undef = .pointer (some ⟨g', 0, none⟩) := by simpa using hq
 have hag : (isAgg uy).run P w = .ok false w := by
  unfold isAgg
  rw [Sem.run_bind, run_underlying hk w]
  simp
 have hlx : (loadVar uy ⟨g', 0, none⟩).run P w = .ok x w := by simp [loadVar, hag, hx]
 simp [results, h, hp', hq', asAddr, run_loadVar_row w g t ty cs fr d hg hu hd hi, hlx]
theorem fin_rc {P : Program} {fn : Func} {R : Ending → World → Prop} {a : Act} {w : World} {p q : Tmp} {ty uy : TypeId} (g g' : Nat) (t : TypeId) (cs : Array Value) (x : Value) (k : IntKind) {d : TypeDesc}
  (h : fn.results = #[.cell p ty, .cell q uy]) (hp : a.tmps.getD p undef = .pointer (some ⟨g, 0, none⟩)) (hq : a.tmps.getD q undef = .pointer (some ⟨g', 0, none⟩)) (hds : a.defers = [])
  (hu : P.underlying ty = some d) (hd : (match d with | .struct _ | .array _ _ => true | _ => false) = true) (hi : (P.info? ty).map (·.size) = some cs.size) (hk : P.underlying uy = some (.int k))
  (hg : w.heap[g]? = some (.cells cs t (0, 0))) (hx : w.cell? ⟨g', 0, none⟩ = some x) (hR : R (.returned (.tuple #[.agg cs, x])) w) : bodyPost P fn R .ret a w :=
 bodyPost_ret (results_rc h _ _ g g' t cs (0, 0) d x k hp hq hg hx hu hd hi hk) hds hR

theorem rangeAt_fr {S : Nat → Prop} {w w' : World} {b o : Nat} {cs : List Value} (h : w.rangeAt b o cs) (f : Fr S w w') (hs : ¬ S b) : w'.rangeAt b o cs := fun j u hj => by
 have hc := h j u hj
 rw [f.cell b (o + j) (World.block_lt_of_cell? w _ hc) hs]
 exact hc
theorem Fr.put {S : Nat → Prop} {w w1 : World} (h : Fr S w w1) (D : Nat) (o : Obj) (hD : w.heap.size ≤ D) : Fr S w (w1.putObj D o) :=
 ⟨h.os, h.tape, h.output, by rw [World.putObj_size];exact h.size, fun i hi hs => (World.putObj_heap_other (by omega)).trans (h.block i hi hs)⟩
theorem fin_m {P : Program} {n : Nat} {fn : Func} {R : Ending → World → Prop} {T : Array Value} {w : World} {D : Nat} {p q : Tmp} {ty uy : TypeId} (g g' : Nat) (t t' : TypeId) (cs : Array Value) (x : Value) (k : IntKind) {d : TypeDesc}
  (hK : w.heap[D]? = some (.deferred (some []))) (h : fn.results = #[.cell p ty, .cell q uy]) (hp : T.getD p undef = .pointer (some ⟨g, 0, none⟩)) (hq : T.getD q undef = .pointer (some ⟨g', 0, none⟩))
  (hu : P.underlying ty = some d) (hd : (match d with | .struct _ | .array _ _ => true | _ => false) = true) (hi : (P.info? ty).map (·.size) = some cs.size) (hk : P.underlying uy = some (.int k))
  (hg : Bk w g cs t) (hx : Bk w g' #[x] t') (h1 : g ≠ D) (h2 : g' ≠ D) (hR : R (.returned (.tuple #[.agg cs, x])) (w.putObj D (.deferred none))) :
  bodyPostM Fence.wide n P fn R .ret { tmps := T, defers := [{ target := Target.collected D, args := #[] }] } w :=
 ⟨by simp, .inl ⟨_, _, rfl, run_takeDeferred hK, _, results_rc h T _ g g' t cs (0, 0) d x k hp hq ((World.putObj_heap_other h1).trans hg) (Bk.cell ((World.putObj_heap_other h2).trans hx) 0) hu hd hi hk, hR⟩⟩
theorem below_both_row {n₀ : Nat} {X Y : World} (h : Below n₀ X Y) (g : Nat) (c c' : Array Value) (t : TypeId) (hg : Bk X g c t) (hn : g < n₀) : Below n₀ (X.setRow g c') (Y.setRow g c') :=
 ⟨h.os, h.tape, h.output, by rw [size_setRow, size_setRow];exact h.size, fun i hi => by
  by_cases e : i = g
  ·subst e
   rw [ArrKit.Bk.row hg c', ArrKit.Bk.row (below_heap h hg hn) c']
  ·rw [setRow_other _ _ _ _ e, setRow_other _ _ _ _ e];exact h.block i hi⟩
theorem below_both_cell {n₀ : Nat} {X Y : World} (h : Below n₀ X Y) (g k : Nat) (c : Array Value) (v : Value) (t : TypeId) (hg : Bk X g c t) (hn : g < n₀) : Below n₀ (X.setCell ⟨g, k, none⟩ v) (Y.setCell ⟨g, k, none⟩ v) :=
 ⟨h.os, h.tape, h.output, by rw [size_set, size_set];exact h.size, fun i hi => by
  by_cases e : i = g
  ·subst e
   rw [Bk.set hg k v, Bk.set (below_heap h hg hn) k v]
  ·rw [sc_other _ _ _ _ e, sc_other _ _ _ _ e];exact h.block i hi⟩
theorem last_skip {C : List Wri} (hok : ∀ x ∈ C, x.ok) (a : Int) : ∀ k, k ≤ C.length → (∀ x ∈ upto (fB C hok) k, x.1.2.pos ≠ a) → lastAt C a = lastAt (C.take (C.length - k)) a := by
 intro k
 induction k with
 | zero => intro _ _;rw [Nat.sub_zero, List.take_length]
 | succ k ih =>
  intro hk h
  rw [upto_succ] at h
  rw [ih (by omega) (fun x hx => h x (List.mem_append_left _ hx))]
  have hm : C.length - (k + 1) < C.length := by omega
  have h2 := h (fB C hok k) (List.mem_append_right _ (List.mem_cons_self ..))
  rw [fB_at hok (show k + (C.length - (k + 1)) + 1 = C.length by omega)] at h2
  rw [show C.length - k = C.length - (k + 1) + 1 by omega, last_take hm, if_neg h2]
theorem last_none {C : List Wri} (hok : ∀ x ∈ C, x.ok) (a : Int) (h : ∀ x ∈ upto (fB C hok) C.length, x.1.2.pos ≠ a) : lastAt C a = none := by
 rw [last_skip hok a _ (Nat.le_refl _) h, Nat.sub_self];rfl
theorem last_hit {C : List Wri} (hok : ∀ x ∈ C, x.ok) (a : Int) {k : Nat} (hk : k < C.length) (h : ∀ x ∈ upto (fB C hok) k, x.1.2.pos ≠ a) (h2 : (fB C hok k).1.2.pos = a) : lastAt C a = some (fB C hok k).1.2.data := by
 rw [last_skip hok a k (by omega) h]
 have hm : C.length - (k + 1) < C.length := by omega
 have e := fB_at hok (show k + (C.length - (k + 1)) + 1 = C.length by omega)
 rw [e] at h2 ⊢
 rw [show C.length - k = C.length - (k + 1) + 1 by omega, last_take hm, if_pos h2]
def AxB (n₀ : Nat) (T : Nat → WX → Array Value) (x : WX) (a' : Act) (W : World) : Prop := ∃ Bx, n₀ ≤ Bx ∧ Bk W Bx x.1.2.cells.toArray 68 ∧ a' = { tmps := T Bx x, defers := [] }
theorem AxB.own (n₀ : Nat) (T : Nat → WX → Array Value) (x : WX) (a' : Act) : OwnFrom n₀ (fun (_ : Unit) W => AxB n₀ T x a' W) := fun _ X Y row ⟨Bx, h1, h2, h3⟩ hg hr =>
 ⟨Bx, h1, (hg.block Bx (Bk.lt h2) (fun e => by obtain ⟨_, o, ho, hc⟩ := hr Bx e.symm;rw [h2] at ho;cases ho;cases hc)).trans h2, h3⟩
def IB (a : Int) (n₀ : Nat) (W0 : World) (pre : List WX) (W : World) : Prop := (∀ x ∈ pre, x.1.2.pos ≠ a) ∧ Below n₀ W0 W
theorem IB.own (a : Int) (n₀ : Nat) (W0 : World) (hn : n₀ ≤ W0.heap.size) : OwnFrom n₀ (IB a n₀ W0) := fun _ X Y row h hg hr => ⟨h.1, below_own h.2 hg hn hr⟩
def FW (W0 : World) (g h : Nat) (x : WX) : World := (W0.setRow g (x.1.2.data.map B).toArray).setCell ⟨h, 0, none⟩ (.int .i64 0)
theorem FW_size (W0 : World) (g h : Nat) (x : WX) : (FW W0 g h x).heap.size = W0.heap.size := by rw [FW, size_set, size_setRow]
def IxB (a : Int) (n₀ : Nat) (W0 : World) (g h : Nat) (c : Code) (pre : List WX) (W : World) : Prop := c = .ret ∧ ∃ ini last, pre = ini ++ [last] ∧ (∀ x ∈ ini, x.1.2.pos ≠ a) ∧ last.1.2.pos = a ∧ Below n₀ (FW W0 g h last) W
theorem IxB.own (a : Int) (n₀ : Nat) (W0 : World) (g h : Nat) (hn : n₀ ≤ W0.heap.size) (c : Code) : OwnFrom n₀ (IxB a n₀ W0 g h c) := fun _ X Y row ⟨hc, ini, last, e1, e2, e3, hB⟩ hg hr => ⟨hc, ini, last, e1, e2, e3, below_own hB hg (by rw [FW_size];exact hn) hr⟩
theorem keeps_new {B0 : Nat} (W : World) (o : Obj) (cs : Array Value) (ho : ∀ x, (W.alloc o).heap[W.heap.size]? = some x → x.isCells = true) : KeepsFrom B0 W ((W.alloc o).setRow W.heap.size cs) :=
 ((KeepsOthers.alloc W o).from _).trans ((KeepsOthers.of_grownBy (grownBy_row _ _ _) (fun j o' e hj => by cases e;exact ho _ hj)).from _)

theorem read_wrong (p : Nat) (a : Int) (d : Dk) (sa : Option Addr) (sc : Nat) (ca : Option Addr) (cc : Nat) (w : World) (hok : d.ok) (hv : DAt w p d sa sc ca cc) (hr : rightB d a = false) : Calls Tryz.prog 67 #[.pointer (some ⟨p, 0, none⟩), .int .i64 a] w fun e w' => e = .returned (readV (readX d a)) ∧ Fr0 w w' := by
 have hzb : ∀ W, (zeroValue 36).run Tryz.prog W = .ok (.agg ZB) W := by intro W;kernel_rfl
 have hs1 : (w.alloc (.cells #[.int .i64 a] 3)).heap.size = w.heap.size + 1 := by simp
 have hs2 : ((w.alloc (.cells #[.int .i64 a] 3)).alloc (.cells ZB 36)).heap.size = w.heap.size + 1 + 1 := by simp
 have HF0 : Jq7 (Fr0 w (((w.alloc (.cells #[.int .i64 a] 3)).alloc (.cells ZB 36)).alloc (.cells #[.int .i64 0] 37))) := jq7 (Fr.alloc (Fr.alloc (Fr.alloc (Fr.refl _ _) _) _) _)
 have HA0 : Jq7 (Bk (((w.alloc (.cells #[.int .i64 a] 3)).alloc (.cells ZB 36)).alloc (.cells #[.int .i64 0] 37)) w.heap.size #[.int .i64 a] 3) := jq7 (Bk.alloc (Bk.alloc (Bk.new w _) _) _)
 have HT0 : Jq7 (Bk (((w.alloc (.cells #[.int .i64 a] 3)).alloc (.cells ZB 36)).alloc (.cells #[.int .i64 0] 37)) (w.heap.size + 1) ZB 36) := jq7 (Bk.alloc (by have := Bk.new (w.alloc (.cells #[.int .i64 a] 3)) (.cells ZB 36);rwa [hs1] at this) _)
 have HE0 : Jq7 (Bk (((w.alloc (.cells #[.int .i64 a] 3)).alloc (.cells ZB 36)).alloc (.cells #[.int .i64 0] 37)) (w.heap.size + 1 + 1) #[.int .i64 0] 37) := jq7 (by have := Bk.new ((w.alloc (.cells #[.int .i64 a] 3)).alloc (.cells ZB 36)) (.cells #[.int .i64 0] 37);rwa [hs2] at this)
 have HV0 := jq7 (hv.keep HF0.o)
 have HRI := jq7 (right_calls p a d sa sc ca cc (((w.alloc (.cells #[.int .i64 a] 3)).alloc (.cells ZB 36)).alloc (.cells #[.int .i64 0] 37)) hok (hv.keep HF0.o))
 clear hs1 hs2
 have HRX := jq7 (readX_wrong hr)
 rw [hr] at HRI
 clear hv hok hr
 go_enter Tryz.func67, Tryz.ntmps67
 go_wp2_with (first | (go_at_call 32;(with_reducible refine (HRI.o).mono ?_);rintro e w2 ⟨rfl, hf2⟩;have HF2 := fq0 HF0 hf2;have HV2 := jq7 (HV0.o.keep hf2);have HT2 := kq0 hf2 HT0;have HE2 := kq0 hf2 HE0;have HA2 := kq0 hf2 HA0;have q3 : w2.cell? ⟨p, 3, none⟩ = some (.bool d.down) := Bk.cell HV2.o.blk 3;have e2 : w2.cell? ⟨(w.heap.size + 1 + 1), 0, none⟩ = some (.int .i64 0) := Bk.cell HE2.o 0;have z2 := Bk.free HE2.o 0;have HR3 : Jq7 (Bk (w2.setRow (w.heap.size + 1) ZB) (w.heap.size + 1 + 1) #[.int .i64 0] 37) := jq7 (ArrKit.Bk.rowOther HE2.o _ (by omega));have e3 : (w2.setRow (w.heap.size + 1) ZB).cell? ⟨(w.heap.size + 1 + 1), 0, none⟩ = some (.int .i64 0) := Bk.cell HR3.o 0;have z3 := Bk.free HR3.o 0;clear hf2) | ((with_reducible show wkq (.build 36 _) _);refine build_ev rfl 36 _ rfl [] (by simp) ZB built_zb ?_) | ((with_reducible show wkq (.store 36 _ _) _);refine wpList_store_row rfl 36 _ _ rfl (w.heap.size + 1) ZB rfl rfl 36 ZB HT2.o info_zb rfl ZB_one ?_))
 refine fin_rc (w.heap.size + 1) (w.heap.size + 1 + 1) 36 ZB (.int .i64 1) _ (by rfl) (by rfl) (by rfl) (by rfl) Tryz.underlying36 (by rfl) info_zb Tryz.underlying37 (Bk.setOther (ArrKit.Bk.row HT2.o ZB) _ _ (by simp)) (Bk.cell (Bk.set HR3.o 0 _) 0) ?_
 rw [HRX.o]
 exact ⟨rfl, Fr.set (ArrKit.Fr.row HF2.o _ _ (.inl (by omega))) _ _ (.inl (by simp;omega))⟩

theorem read_down (p : Nat) (a : Int) (d : Dk) (sa : Option Addr) (sc : Nat) (ca : Option Addr) (cc : Nat) (w : World) (hok : d.ok) (hv : DAt w p d sa sc ca cc) (hr : rightB d a = true) (hd : d.down = true) : Calls Tryz.prog 67 #[.pointer (some ⟨p, 0, none⟩), .int .i64 a] w fun e w' => e = .returned (readV (readX d a)) ∧ Fr0 w w' := by
 have hzb : ∀ W, (zeroValue 36).run Tryz.prog W = .ok (.agg ZB) W := by intro W;kernel_rfl
 have hs1 : (w.alloc (.cells #[.int .i64 a] 3)).heap.size = w.heap.size + 1 := by simp
 have hs2 : ((w.alloc (.cells #[.int .i64 a] 3)).alloc (.cells ZB 36)).heap.size = w.heap.size + 1 + 1 := by simp
 have HF0 : Jq7 (Fr0 w (((w.alloc (.cells #[.int .i64 a] 3)).alloc (.cells ZB 36)).alloc (.cells #[.int .i64 0] 37))) := jq7 (Fr.alloc (Fr.alloc (Fr.alloc (Fr.refl _ _) _) _) _)
 have HA0 : Jq7 (Bk (((w.alloc (.cells #[.int .i64 a] 3)).alloc (.cells ZB 36)).alloc (.cells #[.int .i64 0] 37)) w.heap.size #[.int .i64 a] 3) := jq7 (Bk.alloc (Bk.alloc (Bk.new w _) _) _)
 have HT0 : Jq7 (Bk (((w.alloc (.cells #[.int .i64 a] 3)).alloc (.cells ZB 36)).alloc (.cells #[.int .i64 0] 37)) (w.heap.size + 1) ZB 36) := jq7 (Bk.alloc (by have := Bk.new (w.alloc (.cells #[.int .i64 a] 3)) (.cells ZB 36);rwa [hs1] at this) _)
 have HE0 : Jq7 (Bk (((w.alloc (.cells #[.int .i64 a] 3)).alloc (.cells ZB 36)).alloc (.cells #[.int .i64 0] 37)) (w.heap.size + 1 + 1) #[.int .i64 0] 37) := jq7 (by have := Bk.new ((w.alloc (.cells #[.int .i64 a] 3)).alloc (.cells ZB 36)) (.cells #[.int .i64 0] 37);rwa [hs2] at this)
 have HV0 := jq7 (hv.keep HF0.o)
 have HRI := jq7 (right_calls p a d sa sc ca cc (((w.alloc (.cells #[.int .i64 a] 3)).alloc (.cells ZB 36)).alloc (.cells #[.int .i64 0] 37)) hok (hv.keep HF0.o))
 clear hs1 hs2
 have HRX := jq7 (readX_down hr hd)
 have HDD := jq7 hd
 rw [hr] at HRI
 clear hv hok hr hd
 go_enter Tryz.func67, Tryz.ntmps67
 go_wp2_with (first | (go_at_call 32;(with_reducible refine (HRI.o).mono ?_);rintro e w2 ⟨rfl, hf2⟩;have HF2 := fq0 HF0 hf2;have HV2 := jq7 (HV0.o.keep hf2);have HT2 := kq0 hf2 HT0;have HE2 := kq0 hf2 HE0;have HA2 := kq0 hf2 HA0;have q3 : w2.cell? ⟨p, 3, none⟩ = some (.bool true) := (Bk.cell HV2.o.blk 3).trans (by show some (Value.bool d.down) = _;rw [HDD.o]);have e2 : w2.cell? ⟨(w.heap.size + 1 + 1), 0, none⟩ = some (.int .i64 0) := Bk.cell HE2.o 0;have z2 := Bk.free HE2.o 0;have HR3 : Jq7 (Bk (w2.setRow (w.heap.size + 1) ZB) (w.heap.size + 1 + 1) #[.int .i64 0] 37) := jq7 (ArrKit.Bk.rowOther HE2.o _ (by omega));have e3 : (w2.setRow (w.heap.size + 1) ZB).cell? ⟨(w.heap.size + 1 + 1), 0, none⟩ = some (.int .i64 0) := Bk.cell HR3.o 0;have z3 := Bk.free HR3.o 0;clear hf2) | ((with_reducible show wkq (.build 36 _) _);refine build_ev rfl 36 _ rfl [] (by simp) ZB built_zb ?_) | ((with_reducible show wkq (.store 36 _ _) _);refine wpList_store_row rfl 36 _ _ rfl (w.heap.size + 1) ZB rfl rfl 36 ZB HT2.o info_zb rfl ZB_one ?_))
 refine fin_rc (w.heap.size + 1) (w.heap.size + 1 + 1) 36 ZB (.int .i64 3) _ (by rfl) (by rfl) (by rfl) (by rfl) Tryz.underlying36 (by rfl) info_zb Tryz.underlying37 (Bk.setOther (ArrKit.Bk.row HT2.o ZB) _ _ (by simp)) (Bk.cell (Bk.set HR3.o 0 _) 0) ?_
 rw [HRX.o]
 exact ⟨rfl, Fr.set (ArrKit.Fr.row HF2.o _ _ (.inl (by omega))) _ _ (.inl (by simp;omega))⟩

theorem read_in (n : Nat) (hn : 3 ≤ n) (p : Nat) (a : Int) (d : Dk) (sa : Option Addr) (sc : Nat) (ca : Option Addr) (cc : Nat) (w : World) (hok : d.ok) (hv : DAt w p d sa sc ca cc) (hr : rightB d a = true) (hd : d.down = false) : CallsIn Fence.wide n Tryz.prog 67 #[.pointer (some ⟨p, 0, none⟩), .int .i64 a] w fun e w' => e = .returned (readV (readX d a)) ∧ Fr0 w w' := by
 have hzb : ∀ W, (zeroValue 36).run Tryz.prog W = .ok (.agg ZB) W := by intro W;kernel_rfl
 have hs1 : (w.alloc (.cells #[.int .i64 a] 3)).heap.size = w.heap.size + 1 := by simp
 have hs2 : ((w.alloc (.cells #[.int .i64 a] 3)).alloc (.cells ZB 36)).heap.size = w.heap.size + 1 + 1 := by simp
 have HF0 : Jq7 (Fr0 w (((w.alloc (.cells #[.int .i64 a] 3)).alloc (.cells ZB 36)).alloc (.cells #[.int .i64 0] 37))) := jq7 (Fr.alloc (Fr.alloc (Fr.alloc (Fr.refl _ _) _) _) _)
 have HA0 : Jq7 (Bk (((w.alloc (.cells #[.int .i64 a] 3)).alloc (.cells ZB 36)).alloc (.cells #[.int .i64 0] 37)) w.heap.size #[.int .i64 a] 3) := jq7 (Bk.alloc (Bk.alloc (Bk.new w _) _) _)
 have HT0 : Jq7 (Bk (((w.alloc (.cells #[.int .i64 a] 3)).alloc (.cells ZB 36)).alloc (.cells #[.int .i64 0] 37)) (w.heap.size + 1) ZB 36) := jq7 (Bk.alloc (by have := Bk.new (w.alloc (.cells #[.int .i64 a] 3)) (.cells ZB 36);rwa [hs1] at this) _)
 have HE0 : Jq7 (Bk (((w.alloc (.cells #[.int .i64 a] 3)).alloc (.cells ZB 36)).alloc (.cells #[.int .i64 0] 37)) (w.heap.size + 1 + 1) #[.int .i64 0] 37) := jq7 (by have := Bk.new ((w.alloc (.cells #[.int .i64 a] 3)).alloc (.cells ZB 36)) (.cells #[.int .i64 0] 37);rwa [hs2] at this)
 have HV0 := jq7 (hv.keep HF0.o)
 have HRI := jq7 (right_calls p a d sa sc ca cc (((w.alloc (.cells #[.int .i64 a] 3)).alloc (.cells ZB 36)).alloc (.cells #[.int .i64 0] 37)) hok (hv.keep HF0.o))
 clear hs1 hs2
 have HDD := jq7 hd
 have HRT := jq7 hr
 have HOK := jq7 hok
 have hcn := hv.v.cn
 have hcm := hv.v.cm
 have hsn := hv.v.sn
 have hsm := hv.v.sm
 have HPW : Jq7 (p < w.heap.size) := jq7 (Bk.lt hv.blk)
 have HSB : Jq7 (∀ b', sa = some b' → d.S ≠ [] → b'.block < w.heap.size) := jq7 (fun b' e hl => by
  subst e
  obtain ⟨b'', o', e, hb, -⟩ := RdG.form hv.v.rs (List.length_pos_iff.2 hl) Sec.pos
  obtain rfl := Option.some.inj e
  exact hb)
 rw [hr] at HRI
 clear hv hok hr hd
 have h1 : 1 ≤ n := by omega
 refine callsIn_of_wp_marks Tryz.func67 rfl trivial ?_ rfl
 simp only [Tryz.ntmps67, List.size_toArray, List.length_cons, List.length_nil, Nat.reduceAdd, Nat.reduceSub, Array.replicate_succ, Array.replicate_zero, List.push_toArray, List.append_toArray, List.nil_append, List.cons_append]
 refine wpIn_wide.2 ?_
 go_wp2_with (first | (go_at_call 32;(with_reducible refine (HRI.o).mono ?_);rintro e w2 ⟨rfl, hf2⟩;have HF2 := fq0 HF0 hf2;have HV2 := jq7 (HV0.o.keep hf2);have HT2 := kq0 hf2 HT0;have HE2 := kq0 hf2 HE0;have HA2 := kq0 hf2 HA0;have q3 : w2.cell? ⟨p, 3, none⟩ = some (.bool false) := (Bk.cell HV2.o.blk 3).trans (by show some (Value.bool d.down) = _;rw [HDD.o]);have e2 : w2.cell? ⟨(w.heap.size + 1 + 1), 0, none⟩ = some (.int .i64 0) := Bk.cell HE2.o 0;have z2 := Bk.free HE2.o 0;have HR3 : Jq7 (Bk (w2.setRow (w.heap.size + 1) ZB) (w.heap.size + 1 + 1) #[.int .i64 0] 37) := jq7 (ArrKit.Bk.rowOther HE2.o _ (by omega));have e3 : (w2.setRow (w.heap.size + 1) ZB).cell? ⟨(w.heap.size + 1 + 1), 0, none⟩ = some (.int .i64 0) := Bk.cell HR3.o 0;have z3 := Bk.free HR3.o 0;have q1 : w2.cell? ⟨p, 1, none⟩ = some (.slice ca d.C.length cc) := Bk.cell HV2.o.blk 1;clear hf2 HR3 e3 z3) | (go_at_call 90;(with_reducible refine (back_in n _ _ _ _).mono ?_);rintro e w3 ⟨rfl, rfl⟩))
 have hzw : ∀ W, (zeroValue 68).run Tryz.prog W = .ok (.agg ZWA) W := by intro W;kernel_rfl
 have hC0 : Bk (w2.alloc (.cells #[.slice ca d.C.length cc] 23)) w2.heap.size #[.slice ca d.C.length cc] 23 := Bk.new w2 _
 have hF3 : Fr0 w2 (w2.alloc (.cells #[.slice ca d.C.length cc] 23)) := Fr.alloc (Fr.refl _ _) _
 have HF3 := fq0 HF2 hF3
 have HV3 := jq7 (HV2.o.keep hF3)
 have HT3 := kq0 hF3 HT2
 have HE3 := kq0 hF3 HE2
 have HA3 := kq0 hF3 HA2
 have hsz : (w2.alloc (.cells #[.slice ca d.C.length cc] 23)).heap.size = w2.heap.size + 1 := by simp
 have HCB : Jq7 (∀ b, ca = some b → d.C ≠ [] → b.block < (w2.alloc (.cells #[.slice ca d.C.length cc] 23)).heap.size) := jq7 (fun b e hl => by
  subst e
  obtain ⟨b', o', e, hb, -⟩ := RdG.form HV3.o.v.rc (List.length_pos_iff.2 hl) Wri.ps
  obtain rfl := Option.some.inj e
  exact hb)
 have HC3 := jq7 hC0
 have HSZ := jq7 hsz
 clear hC0 hF3 hsz q3 e2 z2 q1 HF2 HV2 HT2 HE2 HA2 HF0 HV0 HT0 HE0 HA0 HRI
 generalize hW0 : w2.alloc (.cells #[.slice ca d.C.length cc] 23) = W0 at *
 clear hW0
 have hb1 : w.heap.size < W0.heap.size := Bk.lt HA3.o
 have hb2 : w.heap.size + 1 < W0.heap.size := Bk.lt HT3.o
 have hb3 : w.heap.size + 1 + 1 < W0.heap.size := Bk.lt HE3.o
 refine (wpIn_wide (n := n)).1 ?_
 refine wpIn_rangeFunc_ownH (F := Fence.wide) (n := n) rfl h1 (gf := 101) (lb := #[.pointer (some ⟨w2.heap.size, 0, none⟩)]) rfl trivial (enters_of Tryz.func101 (by kernel_rfl) rfl)
  (back_stops (n - 1) (by omega) w2.heap.size W0.heap.size ca cc d.C HOK.o.c hcn hcm W0 (by have := HSZ.o;omega) (Nat.le_refl _) (Bk.cell HC3.o 0) HV3.o.v.rc HCB.o) belowK_t (belowK_b (Nat.le_refl _)) (Below.refl _ _) (fun _ => rfl)
  (IB a W0.heap.size W0) (IxB a W0.heap.size W0 (w.heap.size + 1) (w.heap.size + 1 + 1)) (IB.own a _ W0 (Nat.le_refl _)) (IxB.own a _ W0 _ _ (Nat.le_refl _)) (show IB a W0.heap.size W0 [] W0 from ⟨fun x hx => absurd hx (by simp), Below.refl _ _⟩)
  (AxB W0.heap.size (fun Bx x => #[.pointer (some ⟨p, 0, none⟩), .int .i64 a, undef, .pointer (some ⟨w.heap.size, 0, none⟩), .pointer (some ⟨w.heap.size + 1, 0, none⟩), .pointer (some ⟨w.heap.size + 1 + 1, 0, none⟩), undef, .pointer (some ⟨Bx, 0, none⟩), .bool false, .pointer (some ⟨p, 0, none⟩), .int .i64 a, .bool true, .bool false, undef, .bool false, .pointer (some ⟨p, 0, none⟩), .pointer (some ⟨p, 0, none⟩), .pointer (some ⟨p, 3, none⟩), .bool false, undef, .pointer (some ⟨p, 0, none⟩), .pointer (some ⟨p, 0, none⟩), .pointer (some ⟨p, 1, none⟩), .slice ca d.C.length cc, .func (.func 101) #[] #[.pointer (some ⟨w2.heap.size, 0, none⟩)], .int .i64 (x.1.1 : Int), .agg x.1.2.cells.toArray, undef, undef, undef, undef, undef, undef, undef, undef, undef, undef, undef, undef, undef, undef, undef, undef, undef, undef, undef, undef, undef, undef, undef])) (AxB.own _ _) ?assign ?body ?done ?stop
 case assign =>
  intro l pre x W K hI hK
  have HI := jq7 hI
  have HK := jq7 hK
  clear hI hK
  have HX := jq7 x.2
  have HB0 : Jq7 (Bk (W.alloc (.cells ZWA 68)) W.heap.size ZWA 68) := jq7 (Bk.new W _)
  have HIY : Jq7 ((Tryz.prog.info? 68).map (·.size) = some x.1.2.cells.toArray.size) := jq7 (by rw [List.size_toArray, Wri.leng HX.o, info_w])
  have HZY : Jq7 (ZWA.size = x.1.2.cells.toArray.size) := jq7 ((show ZWA.size = 129 from ZWC_cells).trans (by rw [List.size_toArray, Wri.leng HX.o]))
  have HOY : Jq7 (x.1.2.cells.toArray.all (·.oneCell') = true) := jq7 (all_oneCell_toArray (Wri.one _))
  simp only [encB]
  gi_wp2_with (first | ((with_reducible show wpListIn _ _ _ _ _ ({ dst := _, op := Op.store 68 _ _, type := _, pos := _, after := _, guard := _ } :: _) _ _);refine RfKit.wpListIn_store_row rfl 68 _ _ rfl W.heap.size x.1.2.cells.toArray rfl rfl 68 ZWA HB0.o HIY.o HZY.o HOY.o ?_))
  have hs := HI.o.2.size
  have hbl : Below W0.heap.size W ((W.alloc (.cells ZWA 68)).setRow W.heap.size x.1.2.cells.toArray) := below_row ((Below.refl _ W).alloc hs _) _ _ hs
  exact HK.o _ _ (keeps_new W _ _ (fun y e => by rw [HB0.o] at e;cases e;rfl)) hbl ⟨HI.o.1, HI.o.2.trans hbl⟩ ⟨W.heap.size, hs, ArrKit.Bk.row HB0.o _, rfl⟩
 case body =>
  rintro l pre x a' W hl - ⟨hp, hB⟩ ⟨Bx, hBx, bX, rfl⟩ -
  have HP := jq7 hp
  have HB := jq7 hB
  have HBX := jq7 bX
  have HX := jq7 x.2
  have r0 : W.cell? ⟨Bx, 0, none⟩ = some (.int .i64 x.1.2.pos) := (Bk.cell HBX.o 0).trans (by simp [Wri.cells])
  have r1 : W.cell? ⟨w.heap.size, 0, none⟩ = some (.int .i64 a) := Bk.cell (below_heap HB.o HA3.o hb1) 0
  have HTW := jq7 (below_heap HB.o HT3.o hb2)
  have HEW := jq7 (below_heap HB.o HE3.o hb3)
  have HRG : Jq7 (W.rangeAt Bx 1 (x.1.2.data.map B)) := jq7 (fun j u hj => by
   rw [Bk.cell HBX.o, List.getElem?_toArray, Nat.add_comm, Wri.data_at]
   exact hj)
  have HIB : Jq7 ((Tryz.prog.info? 36).map (·.size) = some (x.1.2.data.map B).length) := jq7 (by rw [List.length_map, HX.o.len, info_b])
  have HIC : Jq7 ((Tryz.prog.info? 36).map (·.size) = some (x.1.2.data.map B).toArray.size) := jq7 (by rw [List.size_toArray, List.length_map, HX.o.len, info_b])
  have HZC : Jq7 (ZB.size = (x.1.2.data.map B).toArray.size) := jq7 ((show ZB.size = 128 by simp [ZB, Z128]).trans (by rw [List.size_toArray, List.length_map, HX.o.len]))
  have HOB : Jq7 ((x.1.2.data.map B).toArray.all (·.oneCell') = true) := jq7 (by simp [B, Value.oneCell'])
  have HR3 : Jq7 (Bk (W.setRow (w.heap.size + 1) (x.1.2.data.map B).toArray) (w.heap.size + 1 + 1) #[.int .i64 0] 37) := jq7 (ArrKit.Bk.rowOther HEW.o _ (by omega))
  have e3 : (W.setRow (w.heap.size + 1) (x.1.2.data.map B).toArray).cell? ⟨(w.heap.size + 1 + 1), 0, none⟩ = some (.int .i64 0) := Bk.cell HR3.o 0
  have z3 := Bk.free HR3.o 0
  clear hp hB bX
  cases hpe : (x.1.2.pos == a) with
  | true =>
   have HPE := jq7 hpe
   gi_wp2_with (first | ((with_reducible show wpListIn _ _ _ _ _ ({ dst := _, op := Op.load 36 _, type := _, pos := _, after := _, guard := _ } :: _) _ _);refine RfKit.wpListIn_load_mid rfl 36 _ rfl Bx 1 rfl (x.1.2.data.map B) _ HRG.o Tryz.underlying36 rfl HIB.o ?_) | ((with_reducible show wpListIn _ _ _ _ _ ({ dst := _, op := Op.store 36 _ _, type := _, pos := _, after := _, guard := _ } :: _) _ _);refine RfKit.wpListIn_store_row rfl 36 _ _ rfl (w.heap.size + 1) (x.1.2.data.map B).toArray rfl rfl 36 ZB HTW.o HIC.o HZC.o HOB.o ?_))
   refine ⟨((KeepsOthers.of_grownBy (grownBy_row W (w.heap.size + 1) _) (fun j o' e hj => by cases e;rw [HTW.o] at hj;cases hj;rfl)).from _).trans ((KeepsOthers.setCell _ _ _).from _), rfl, pre, x, rfl, HP.o, eq_of_beq HPE.o, ?_⟩
   exact below_both_cell (below_both_row HB.o (w.heap.size + 1) ZB _ 36 HT3.o hb2) (w.heap.size + 1 + 1) 0 #[.int .i64 0] _ 37 (ArrKit.Bk.rowOther HE3.o _ (by omega)) hb3
  | false =>
   have HPE := jq7 hpe
   gi_wp2
   exact ⟨KeepsFrom.refl _ _, Below.refl _ _, fun y hy => (List.mem_append.1 hy).elim (HP.o y) (fun e => by simp only [List.mem_cons, List.not_mem_nil, or_false] at e;subst e;intro e2;have := HPE.o;rw [e2] at this;simp at this), HB.o⟩
 case done =>
  rintro D ys W hD rfl ⟨hne, hB⟩ hK
  have HL := jq7 (last_none HOK.o.c a hne)
  have hFW := Fr0.of_below hB
  have HFW := jq7 hFW
  have HVW := jq7 (HV3.o.keep hFW)
  have HTW := kq0 hFW HT3
  have HEW := kq0 hFW HE3
  have HAW := kq0 hFW HA3
  have HFF := fq0 HF3 hFW
  have HKD := jq7 hK
  have hrt := HRT.o
  rw [rightB, Bool.and_eq_true] at hrt
  have htt := thereB_true.1 hrt.1
  have ha0 := htt.1
  have ha1 := htt.2
  have hq : a.toNat < d.S.length := by omega
  clear hne hB hFW hK hrt htt
  obtain ⟨b, o, hbo, hrg⟩ := HVW.o.v.rs _ hq
  have HBO := jq7 hbo
  have HX := jq7 (HOK.o.s _ (List.getElem_mem hq))
  have HSX : Jq7 (secAt d a = d.S[a.toNat]) := jq7 (by rw [secAt, List.getD_eq_getElem?_getD, List.getElem?_eq_getElem hq];rfl)
  have HNR : Jq7 (∀ W', Fr0 W W' → W'.cell? ⟨b, o + a.toNat * 130 + 128, none⟩ = some (.bool d.S[a.toNat].nr)) := jq7 (fun W' f => (f.cell b _ (World.block_lt_of_cell? W _ (hrg 128 _ (Sec.nr_at HX.o))) (fun h => h)).trans (hrg 128 _ (Sec.nr_at HX.o)))
  have hlen : d.S[a.toNat].data.length = 128 := HX.o
  have HRG : Jq7 (∀ W', Fr0 W W' → W'.rangeAt b (o + a.toNat * 130) (d.S[a.toNat].data.map B)) := jq7 (fun W' f j u hj => by
   have hj' : j < 128 := by
    have := (List.getElem?_eq_some_iff.1 hj).1
    rwa [List.length_map, hlen] at this
   have hc := hrg j u (by rw [Sec.data_at HX.o hj'];exact hj)
   exact (f.cell b _ (World.block_lt_of_cell? W _ hc) (fun h => h)).trans hc)
  have HQ0 : Jq7 (∀ W' : World, W'.heap[p]? = some (.cells (dval d sa sc ca cc) 25 (0, 0)) → W'.cell? ⟨p, 0, none⟩ = some (.slice (some ⟨b, o, none⟩) d.S.length sc)) := jq7 (fun W' h => by rw [← hbo];exact Bk.cell h 0)
  have HIB : Jq7 ((Tryz.prog.info? 36).map (·.size) = some (d.S[a.toNat].data.map B).length) := jq7 (by rw [List.length_map, hlen, info_b])
  have HIC : Jq7 ((Tryz.prog.info? 36).map (·.size) = some (d.S[a.toNat].data.map B).toArray.size) := jq7 (by rw [List.size_toArray, List.length_map, hlen, info_b])
  have HZC : Jq7 (ZB.size = (d.S[a.toNat].data.map B).toArray.size) := jq7 ((show ZB.size = 128 by simp [ZB, Z128]).trans (by rw [List.size_toArray, List.length_map, hlen]))
  have HOB : Jq7 ((d.S[a.toNat].data.map B).toArray.all (·.oneCell') = true) := jq7 (by simp [B, Value.oneCell'])
  have HST : Jq7 (Held W [(p, .cells (dval d sa sc ca cc) 25 (0, 0)), (w.heap.size, .cells #[.int .i64 a] 3 (0, 0))] W) := jq7 (Held.cons HVW.o.blk (Held.cons HAW.o (Held.nil (Fr.refl _ _))))
  clear hrg hlen hbo
  cases hnr : d.S[a.toNat].nr with
  | true =>
   have HN := jq7 hnr
   rw [hnr] at HNR
   clear hnr
   go_wp2_with fail
   refine wp_region_noPanic ?_
   refine wp_region_held_drew (S := (Held W [(p, .cells (dval d sa sc ca cc) 25 (0, 0)), (w.heap.size, .cells #[.int .i64 a] 3 (0, 0))])) (by kernel_rfl) (Held.drew HST.o) (fun hL0 => ?_)
   refine tk0 (i := 0) (v := .pointer (some ⟨p, 0, none⟩)) rfl hL0 ?_
   refine tk0 (i := 1) (v := .pointer (some ⟨p, 0, none⟩)) rfl hL0 ?_
   simp only [Act.put,zA,zB,zC,zD,zE,zF]
   refine tk0 (i := 2) (v := .pointer (some ⟨p, 0, none⟩)) rfl hL0 ?_
   refine tk (i := 3) (v := .slice (some ⟨b, o, none⟩) d.S.length sc) rfl (Or.inl ⟨by kernel_rfl, fun w hSw => by have hcl := (fun W h => HQ0.o _ (Held.a0 h)) w hSw;go_simp⟩) hL0 ?_
   simp only [Act.put,zA,zB,zC,zD,zE,zF]
   refine tk (i := 4) (v := .int .i64 a) rfl (Or.inl ⟨by kernel_rfl, fun w hSw => by have hcl := (fun W h => Bk.cell (Held.a0 (Held.tl h)) 0) w hSw;go_simp⟩) hL0 ?_
   refine tk (i := 5) (v := .pointer (some ⟨b, o + a.toNat * 130, none⟩)) rfl (Or.inl ⟨by kernel_rfl, fun w hSw => by go_simp⟩) hL0 ?_
   simp only [Act.put,zA,zB,zC,zD,zE,zF]
   refine tk0 (i := 6) (v := .pointer (some ⟨b, o + a.toNat * 130 + 128, none⟩)) rfl hL0 ?_
   refine tk (i := 7) (v := .bool true) rfl (Or.inl ⟨by kernel_rfl, fun w hSw => by have hcl := (fun W h => HNR.o _ h.2) w hSw;go_simp⟩) hL0 ?_
   simp only [Act.put,zA,zB,zC,zD,zE,zF]
   change wpAnyH _ _ _ _ _ 0 #[true, true, true, true, true, true, true, true] _ _
   refine wpAnyH_done (by kernel_rfl) ?_ _
   refine NoPanic.normal ?_
   have HFIN := jq7 (Held.f hL0)
   have HEND := jq7 hL0
   clear hL0
   have HTV : Jq7 (Bk W.drew (w.heap.size + 1) ZB 36) := jq7 HTW.o
   have HR3 : Jq7 (Bk (W.drew.setRow (w.heap.size + 1) ZB) (w.heap.size + 1 + 1) #[.int .i64 0] 37) := jq7 (ArrKit.Bk.rowOther (show Bk W.drew (w.heap.size + 1 + 1) #[.int .i64 0] 37 from HEW.o) _ (by omega))
   have e3 : (W.drew.setRow (w.heap.size + 1) ZB).cell? ⟨(w.heap.size + 1 + 1), 0, none⟩ = some (.int .i64 0) := Bk.cell HR3.o 0
   have z3 := Bk.free HR3.o 0
   have HFV : Jq7 (Fr0 w W.drew) := jq7 (Fr.drew HFF.o)
   have HKV : Jq7 (W.drew.heap[D]? = some (.deferred (some []))) := jq7 HKD.o
   go_wp2_with (first | ((with_reducible show wkq (.build 36 _) _);refine build_ev rfl 36 _ rfl [] (by simp) ZB built_zb ?_) | ((with_reducible show wkq (.store 36 _ _) _);refine wpList_store_row rfl 36 _ _ rfl (w.heap.size + 1) ZB rfl rfl 36 ZB HTV.o info_zb rfl ZB_one ?_))
   refine fin_m (w.heap.size + 1) (w.heap.size + 1 + 1) 36 37 ZB (.int .i64 2) _ (((sc_other _ _ _ _ (show D ≠ w.heap.size + 1 + 1 by omega)).trans (setRow_other _ _ _ _ (show D ≠ w.heap.size + 1 by omega))).trans HKV.o) (by rfl) (by rfl) (by rfl) Tryz.underlying36 (by rfl) info_zb Tryz.underlying37 (Bk.setOther (ArrKit.Bk.row HTV.o _) _ _ (by simp)) (Bk.set HR3.o 0 (.int .i64 2)) (by omega) (by omega) ?_
   rw [readX_nr HRT.o HDD.o HL.o (by rw [HSX.o];exact HN.o)]
   exact ⟨rfl, Fr.put (Fr.set (ArrKit.Fr.row HFV.o _ _ (.inl (by omega))) _ _ (.inl (by simp;omega))) D _ (by omega)⟩
  | false =>
   have HN := jq7 hnr
   rw [hnr] at HNR
   clear hnr
   go_wp2_with fail
   refine wp_region_noPanic ?_
   refine wp_region_held_drew (S := (Held W [(p, .cells (dval d sa sc ca cc) 25 (0, 0)), (w.heap.size, .cells #[.int .i64 a] 3 (0, 0))])) (by kernel_rfl) (Held.drew HST.o) (fun hL0 => ?_)
   refine tk0 (i := 0) (v := .pointer (some ⟨p, 0, none⟩)) rfl hL0 ?_
   refine tk0 (i := 1) (v := .pointer (some ⟨p, 0, none⟩)) rfl hL0 ?_
   simp only [Act.put,zA,zB,zC,zD,zE,zF]
   refine tk0 (i := 2) (v := .pointer (some ⟨p, 0, none⟩)) rfl hL0 ?_
   refine tk (i := 3) (v := .slice (some ⟨b, o, none⟩) d.S.length sc) rfl (Or.inl ⟨by kernel_rfl, fun w hSw => by have hcl := (fun W h => HQ0.o _ (Held.a0 h)) w hSw;go_simp⟩) hL0 ?_
   simp only [Act.put,zA,zB,zC,zD,zE,zF]
   refine tk (i := 4) (v := .int .i64 a) rfl (Or.inl ⟨by kernel_rfl, fun w hSw => by have hcl := (fun W h => Bk.cell (Held.a0 (Held.tl h)) 0) w hSw;go_simp⟩) hL0 ?_
   refine tk (i := 5) (v := .pointer (some ⟨b, o + a.toNat * 130, none⟩)) rfl (Or.inl ⟨by kernel_rfl, fun w hSw => by go_simp⟩) hL0 ?_
   simp only [Act.put,zA,zB,zC,zD,zE,zF]
   refine tk0 (i := 6) (v := .pointer (some ⟨b, o + a.toNat * 130 + 128, none⟩)) rfl hL0 ?_
   refine tk (i := 7) (v := .bool false) rfl (Or.inl ⟨by kernel_rfl, fun w hSw => by have hcl := (fun W h => HNR.o _ h.2) w hSw;go_simp⟩) hL0 ?_
   simp only [Act.put,zA,zB,zC,zD,zE,zF]
   change wpAnyH _ _ _ _ _ 0 #[true, true, true, true, true, true, true, true] _ _
   refine wpAnyH_done (by kernel_rfl) ?_ _
   refine NoPanic.normal ?_
   have HFIN := jq7 (Held.f hL0)
   have HEND := jq7 hL0
   clear hL0
   go_wp2_with fail
   have hpw : p < w.heap.size := HPW.o
   have hbw : b < w.heap.size := HSB.o _ HBO.o (by intro e;rw [e] at hq;simp at hq)
   have HSU : Jq7 (Stand [(p, .cells (dval d sa sc ca cc) 25 (0, 0)), (w.heap.size, .cells #[.int .i64 a] 3 (0, 0))] W.drew ∧ W.drew.rangeAt b (o + a.toNat * 130) (d.S[a.toNat].data.map B)) := jq7 ⟨HST.o.1, HRG.o _ (Fr.drew (Fr.refl _ _))⟩
   have HTV : Jq7 (Bk W.drew.drew (w.heap.size + 1) ZB 36) := jq7 HTW.o
   have HR3 : Jq7 (Bk (W.drew.drew.setRow (w.heap.size + 1) (d.S[a.toNat].data.map B).toArray) (w.heap.size + 1 + 1) #[.int .i64 0] 37) := jq7 (ArrKit.Bk.rowOther (show Bk W.drew.drew (w.heap.size + 1 + 1) #[.int .i64 0] 37 from HEW.o) _ (by omega))
   have HFV : Jq7 (Fr0 w W.drew.drew) := jq7 (Fr.drew (Fr.drew HFF.o))
   have HKV : Jq7 (W.drew.drew.heap[D]? = some (.deferred (some []))) := jq7 HKD.o
   refine wp_region_noPanic ?_
   refine wp_region_held_drew (S := (fun W1 => Stand [(p, .cells (dval d sa sc ca cc) 25 (0, 0)), (w.heap.size, .cells #[.int .i64 a] 3 (0, 0))] W1 ∧ W1.rangeAt b (o + a.toNat * 130) (d.S[a.toNat].data.map B))) (by kernel_rfl) (⟨Stand.drew HSU.o.1, HSU.o.2⟩) (fun hL0 => ?_)
   generalize W.drew.drew = wd at *
   refine tk0 (i := 0) (v := .pointer (some ⟨p, 0, none⟩)) rfl hL0 ?_
   refine tk0 (i := 1) (v := .pointer (some ⟨p, 0, none⟩)) rfl hL0 ?_
   simp only [Act.put,zA,zB,zC,zD,zE,zF]
   refine tk0 (i := 2) (v := .pointer (some ⟨p, 0, none⟩)) rfl hL0 ?_
   refine tk (i := 3) (v := .slice (some ⟨b, o, none⟩) d.S.length sc) rfl (Or.inl ⟨by kernel_rfl, fun w hSw => by have hcl := (fun W h => HQ0.o _ (Stand.a0 h.1)) w hSw;go_simp⟩) hL0 ?_
   simp only [Act.put,zA,zB,zC,zD,zE,zF]
   refine tk (i := 4) (v := .int .i64 a) rfl (Or.inl ⟨by kernel_rfl, fun w hSw => by have hcl := (fun W h => Bk.cell (Stand.a0 (Stand.tl h.1)) 0) w hSw;go_simp⟩) hL0 ?_
   refine tk (i := 5) (v := .pointer (some ⟨b, o + a.toNat * 130, none⟩)) rfl (Or.inl ⟨by kernel_rfl, fun w hSw => by go_simp⟩) hL0 ?_
   simp only [Act.put,zA,zB,zC,zD,zE,zF]
   refine tk0 (i := 6) (v := .pointer (some ⟨b, o + a.toNat * 130, none⟩)) rfl hL0 ?_
   refine tk (i := 7) (v := .agg (d.S[a.toNat].data.map B).toArray) rfl (yieldsIf_load_mid (by kernel_rfl) 36 _ rfl b (o + a.toNat * 130) rfl (d.S[a.toNat].data.map B) _ (fun W h => h.2) Tryz.underlying36 rfl HIB.o) hL0 ?_
   simp only [Act.put,zA,zB,zC,zD,zE,zF]
   change wpAnyH _ _ _ _ _ 2 #[true, true, true, true, true, true, true, true, false, false] _ _
   refine rd1 8 rfl fun K hK => ?_
   simp only [zA, zB, zC]
   refine wp_store_row 36 _ _ rfl (w.heap.size + 1) (d.S[a.toNat].data.map B).toArray rfl rfl 36 ZB HTV.o HIC.o HZC.o HOB.o ?_
   refine hK.out _ _ (⟨Stand.fr hL0.1 (Fr.row1 _ _ _) (fun r hr => by simp only [List.mem_cons, List.not_mem_nil, or_false] at hr;rcases hr with rfl | rfl;exact (by omega);exact (by omega)), rangeAt_fr hL0.2 (Fr.row1 _ (w.heap.size + 1) (d.S[a.toNat].data.map B).toArray) (by omega)⟩) (fun hL1 => ?_)
   clear hK K hL0
   change wpAnyH _ _ _ _ _ 1 #[true, true, true, true, true, true, true, true, true, false] _ _
   refine rd1 9 rfl fun K hK => ?_
   simp only [zA, zB, zC]
   have e3 : (wd.setRow (w.heap.size + 1) (d.S[a.toNat].data.map B).toArray).cell? ⟨(w.heap.size + 1 + 1), 0, none⟩ = some (.int .i64 0) := Bk.cell HR3.o 0
   have z3 := Bk.free HR3.o 0
   go_wp2_with fail
   clear e3 z3
   refine hK.out _ _ (⟨Stand.fr hL1.1 (Fr.set1 _ _ _ _) (fun r hr => by simp only [List.mem_cons, List.not_mem_nil, or_false] at hr;rcases hr with rfl | rfl;exact (by omega);exact (by omega)), rangeAt_fr hL1.2 (Fr.set1 _ (w.heap.size + 1 + 1) _ _) (by omega)⟩) (fun hL2 => ?_)
   clear hK K hL1
   change wpAnyH _ _ _ _ _ 0 #[true, true, true, true, true, true, true, true, true, true] _ _
   refine wpAnyH_done (by kernel_rfl) ?_ _
   refine NoPanic.normal ?_
   have HEND := jq7 hL2
   clear hL2
   go_wp2_with fail
   refine fin_m (w.heap.size + 1) (w.heap.size + 1 + 1) 36 37 (d.S[a.toNat].data.map B).toArray (.int .i64 0) _ (((sc_other _ _ _ _ (show D ≠ w.heap.size + 1 + 1 by omega)).trans (setRow_other _ _ _ _ (show D ≠ w.heap.size + 1 by omega))).trans HKV.o) (by rfl) (by rfl) (by rfl) Tryz.underlying36 (by rfl) HIC.o Tryz.underlying37 (Bk.setOther (ArrKit.Bk.row HTV.o _) _ _ (by simp)) (Bk.set HR3.o 0 (.int .i64 0)) (by omega) (by omega) ?_
   rw [readX_data HRT.o HDD.o HL.o (by rw [HSX.o];exact HN.o), HSX.o]
   exact ⟨rfl, Fr.put (Fr.set (ArrKit.Fr.row HFV.o _ _ (.inl (by omega))) _ _ (.inl (by simp;omega))) D _ (by omega)⟩
 case stop =>
  rintro D c pre W hD ⟨k, hk, rfl⟩ ⟨rfl, ini, last, e1, e2, e3, hB⟩ hK
  refine wpIn_wide.2 ?_
  go_wp2
  obtain ⟨k', rfl⟩ : ∃ k', k = k' + 1 := by
   cases k with
   | zero => simp [upto] at e1
   | succ k' => exact ⟨k', rfl⟩
  rw [upto_succ] at e1
  obtain ⟨rfl, e5⟩ := List.append_inj' e1 rfl
  obtain rfl : fB d.C HOK.o.c k' = last := by simpa using e5
  have hl := last_hit HOK.o.c a (by omega) e2 e3
  have hTW := below_heap hB (Bk.setOther (ArrKit.Bk.row HT3.o _) ⟨(w.heap.size + 1 + 1), 0, none⟩ (.int .i64 0) (by simp)) hb2
  have hEW := below_heap hB (Bk.set (ArrKit.Bk.rowOther HE3.o _ (show w.heap.size + 1 + 1 ≠ w.heap.size + 1 by omega)) 0 (.int .i64 0)) hb3
  have hfw : Fr0 w W := ⟨hB.os.trans HF3.o.os, hB.tape.trans HF3.o.tape, hB.output.trans HF3.o.output, Nat.le_trans HF3.o.size (by have := hB.size;rwa [FW_size] at this), fun i hi hs => (hB.block i (Nat.lt_of_lt_of_le hi HF3.o.size)).trans ((sc_other _ _ _ _ (show i ≠ w.heap.size + 1 + 1 by omega)).trans ((setRow_other _ _ _ _ (show i ≠ w.heap.size + 1 by omega)).trans (HF3.o.block i hi hs)))⟩
  refine fin_m (w.heap.size + 1) (w.heap.size + 1 + 1) 36 37 _ (.int .i64 0) _ hK (by rfl) (by rfl) (by rfl) Tryz.underlying36 (by rfl) (by rw [info_b, List.size_toArray, List.length_map, (fB d.C HOK.o.c k').2.len]) Tryz.underlying37 hTW hEW (by omega) (by omega) ?_
  rw [readX_some HRT.o HDD.o hl]
  exact ⟨rfl, Fr.put hfw D _ (by omega)⟩

theorem read_calls (p : Nat) (a : Int) (d : Dk) (sa : Option Addr) (sc : Nat) (ca : Option Addr) (cc : Nat) (w : World) (hok : d.ok) (hv : DAt w p d sa sc ca cc) : Calls Tryz.prog 67 #[.pointer (some ⟨p, 0, none⟩), .int .i64 a] w fun e w' => e = .returned (readV (readX d a)) ∧ Fr0 w w' := by
 cases hr : rightB d a with
 | false => exact read_wrong p a d sa sc ca cc w hok hv hr
 | true =>
  cases hd : d.down with
  | true => exact read_down p a d sa sc ca cc w hok hv hr hd
  | false => exact callsIn_wide.1 (read_in 6 (by omega) p a d sa sc ca cc w hok hv hr hd)

end Go.Proofs.YtmkmpfnadcmcoaaGreatDoor.DiskRead
