/- Whole arrays out of blocks and into them. -/
import Derived.Test.YtlleandelcjhjaaDoorKit
import Derived.Outline
import Derived.LoopTactic
import Derived.Laws.Rows
import Derived.Laws.Tables
import Derived.StillTailTactics
import Derived.BigQuiet
import Derived.Deep.QuietTactic
import Derived.DeepKeys
import Derived.Laws.StructEq
import Derived.Deep.RegionHeld3
set_option linter.unusedVariables false
set_option linter.unusedSimpArgs false
namespace Go.Proofs.YtlleandelcjhjaaDoor.ArrKit
open Go Go.RowKit Go.Proofs.YtlleandelcjhjaaDoor.K

theorem Bk.row {w : World} {g : Nat} {t : TypeId} {cs : Array Value} (h : Bk w g cs t) (c' : Array Value) : Bk (w.setRow g c') g c' t := setRow_heap w g cs c' t (0, 0) h
theorem Bk.rowOther {w : World} {g k : Nat} {o : Obj} (h : w.heap[k]? = some o) (c' : Array Value) (hne : k ≠ g) : (w.setRow g c').heap[k]? = some o := (setRow_other w g k c' hne).trans h
theorem Fr.row {S : Nat → Prop} {w w1 : World} (h : Fr S w w1) (g : Nat) (c' : Array Value) (hg : w.heap.size ≤ g ∨ S g) : Fr S w (w1.setRow g c') where
  os := h.os
  tape := h.tape
  output := h.output
  size := by rw [size_setRow]; exact h.size
  block := fun i hi hs => by
    rw [setRow_other _ _ _ _ (by rintro rfl; rcases hg with hg | hg; omega; exact hs hg)]
    exact h.block i hi hs
/-- the end of a function whose one result is an array in a block -/
theorem fin_c {P : Program} {fn : Func} {R : Ending → World → Prop} {a : Act} {w : World} {p : Tmp} {ty : TypeId} (g : Nat) (t : TypeId) (cs : Array Value) {d : TypeDesc}
    (h : fn.results = #[.cell p ty]) (hp : a.tmps.getD p undef = .pointer (some ⟨g, 0, none⟩)) (hds : a.defers = [])
    (hu : P.underlying ty = some d) (hd : (match d with | .struct _ | .array _ _ => true | _ => false) = true) (hi : (P.info? ty).map (·.size) = some cs.size)
    (hg : w.heap[g]? = some (.cells cs t (0, 0))) (hR : R (.returned (.agg cs)) w) : bodyPost P fn R .ret a w :=
  bodyPost_ret (results_cell_row h _ _ g t cs (0, 0) d hp hg hu hd hi) hds hR

end Go.Proofs.YtlleandelcjhjaaDoor.ArrKit

set_option linter.unusedVariables false
set_option linter.unusedSimpArgs false
namespace Go.Proofs.YtlleandelcjhjaaDoor.EqKit
open Go Go.RowKit Go.Proofs.YtlleandelcjhjaaDoor.K

theorem map_inj {α β : Type} {f : α → β} (hf : ∀ a b, f a = f b → a = b) : ∀ {l m : List α}, l.map f = m.map f → l = m
  | [], [], _ => rfl
  | [], _ :: _, h => by simp at h
  | _ :: _, [], h => by simp at h
  | a :: l, b :: m, h => by
    simp only [List.map_cons, List.cons.injEq] at h
    rw [hf _ _ h.1, map_inj hf h.2]
theorem mapM_some {α β : Type} (f : α → Option β) (g : α → β) : ∀ (l : List α), (∀ x ∈ l, f x = some (g x)) → l.mapM f = some (l.map g)
  | [], _ => rfl
  | x :: r, h => by
    rw [List.mapM_cons, h x (List.mem_cons_self ..), mapM_some f g r (fun y hy => h y (List.mem_cons_of_mem _ hy))]
    rfl
theorem lits_row {P : Program} {t e : TypeId} {n : Nat} {k : IntKind} (d : Nat) (ht : P.underlying t = some (.array n e)) (he : P.underlying e = some (.int k)) (hce : P.cellsOf e = 1) (hct : P.cellsOf t = n)
    (zs : List Int) (hl : zs.length = n) (hw : ∀ z ∈ zs, (Lit.int k z).wf = true) : P.keyLits (d + 2) t (zs.map (.int k ·)) = some (zs.map (Lit.int k ·)) := by
  unfold Program.keyLits
  rw [ht]
  simp only [List.length_map, hl, hct, if_true, hce, Nat.mul_one]
  rw [mapM_some _ (fun i => [Lit.int k (zs.getD i 0)]) _ (fun i hi => by
    have hin : i < zs.length := by rw [hl]; exact List.mem_range.1 hi
    rw [List.drop_eq_getElem_cons (by simpa using hin), List.take_succ_cons, List.take_zero]
    unfold Program.keyLits
    rw [he, List.getElem_map]
    simp [hw _ (List.getElem_mem hin), List.getD, List.getElem?_eq_getElem hin])]
  simp only [Option.map_some, Option.some.injEq]
  apply List.ext_getElem?
  intro i
  rw [show (List.map (fun i => [Lit.int k (zs.getD i 0)]) (List.range n)).flatten = (List.range n).map (fun i => Lit.int k (zs.getD i 0)) by
    induction (List.range n) with
    | nil => rfl
    | cons x r ih => rw [List.map_cons, List.flatten_cons, ih]; rfl]
  rw [List.getElem?_map, List.getElem?_map]
  by_cases hi : i < n
  · rw [List.getElem?_range hi, List.getElem?_eq_getElem (by omega)]
    simp [List.getD, List.getElem?_eq_getElem (show i < zs.length by omega)]
  · rw [List.getElem?_eq_none (by simp; omega), List.getElem?_eq_none (by omega)]
    rfl
/-- two arrays of numbers of one kind -/
theorem eq_row {P : Program} {t e : TypeId} {n : Nat} {k : IntKind} (ht : P.underlying t = some (.array n e)) (he : P.underlying e = some (.int k)) (hce : P.cellsOf e = 1) (hct : P.cellsOf t = n) (hk : P.keyTypeAt 2 t = true)
    (zs ys : List Int) (hl : zs.length = n) (hm : ys.length = n) (hw : ∀ z ∈ zs, (Lit.int k z).wf = true) (hv : ∀ z ∈ ys, (Lit.int k z).wf = true) (W : World) :
    (Op.equalIn 10000 t (.agg (zs.map (.int k ·)).toArray) (.agg (ys.map (.int k ·)).toArray)).run P W = .ok (decide (zs = ys)) W := by
  obtain ⟨r, hr, hiff⟩ := run_equalIn_deep 9998 2 t hk W 2 2 (.agg (zs.map (Value.int k ·)).toArray) (.agg (ys.map (Value.int k ·)).toArray) (zs.map (Lit.int k ·)) (ys.map (Lit.int k ·)) (by simp [Value.formed, ht, hl, hct]) (by simp [Value.formed, ht, hm, hct]) (lits_row 0 ht he hce hct zs hl hw) (lits_row 0 ht he hce hct ys hm hv)
  rw [show (10000 : Nat) = 9998 + 2 from rfl, hr]
  congr 1
  rw [Bool.eq_iff_iff, hiff, decide_eq_true_eq]
  constructor
  · intro h
    exact map_inj (fun a b e => by simpa using e) h
  · rintro rfl; rfl
theorem run_eql_op {P : Program} {o : Oper} {a : Act} {x y : Operand} {t u : TypeId} {X Y : Array Value} {b : Bool} (ho : o.op = .binOp .eql t x y u) (hx : a.eval x = .agg X) (hy : a.eval y = .agg Y) (hm : P.eqGuardType P.depth t = false)
    (heq : ∀ W, (Op.equalIn 10000 t (.agg X) (.agg Y)).run P W = .ok b W) (w : World) : (execOp a.eval o).run P w = .ok (.value (.bool b)) w := by
  unfold execOp
  simp only [ho, hx, hy, Sem.run_bind, run_eql_struct, heq, Result.andThen, Sem.run_pure, run_eqGuard_agg _ _ _ _ _ _ _ hm]
theorem wf_u8 (v : UInt8) : (Lit.int .u8 (v.toNat : Int)).wf = true := by
  have := v.toNat_lt
  simp [Lit.wf, IntKind.min, IntKind.max, IntKind.signed, IntKind.bits]
  omega
theorem wf_u32 (n : Nat) (h : n < 4294967296) : (Lit.int .u32 (n : Int)).wf = true := by
  simp [Lit.wf, IntKind.min, IntKind.max, IntKind.signed, IntKind.bits]
  omega
/-- two arrays of bytes -/
theorem eq_bytes {P : Program} {t e : TypeId} {n : Nat} (ht : P.underlying t = some (.array n e)) (he : P.underlying e = some (.int .u8)) (hce : P.cellsOf e = 1) (hct : P.cellsOf t = n) (hk : P.keyTypeAt 2 t = true)
    (l m : List UInt8) (hl : l.length = n) (hm : m.length = n) (W : World) : (Op.equalIn 10000 t (.agg (l.map B).toArray) (.agg (m.map B).toArray)).run P W = .ok (decide (l = m)) W := by
  have h := eq_row ht he hce hct hk (l.map fun v => (v.toNat : Int)) (m.map fun v => (v.toNat : Int)) (by simpa using hl) (by simpa using hm) (fun z hz => by
    obtain ⟨v, -, rfl⟩ := List.mem_map.1 hz
    exact wf_u8 v) (fun z hz => by
    obtain ⟨v, -, rfl⟩ := List.mem_map.1 hz
    exact wf_u8 v) W
  simp only [List.map_map] at h
  have e1 : ∀ l : List UInt8, List.map ((fun x => Value.int .u8 x) ∘ fun v : UInt8 => (v.toNat : Int)) l = l.map B := fun l => rfl
  rw [e1, e1] at h
  rw [h]
  congr 1
  rw [Bool.eq_iff_iff, decide_eq_true_eq, decide_eq_true_eq]
  constructor
  · intro h
    exact map_inj (fun a b e => UInt8.toNat_inj.1 (Int.ofNat.inj e)) h
  · rintro rfl; rfl

end Go.Proofs.YtlleandelcjhjaaDoor.EqKit

set_option linter.unusedVariables false
set_option linter.unusedSimpArgs false
namespace Go.Proofs.YtlleandelcjhjaaDoor.HeldKit
open Go Go.RowKit Go.Proofs.YtlleandelcjhjaaDoor.K Go.Proofs.YtlleandelcjhjaaDoor.ArrKit Go.Proofs.YtlleandelcjhjaaDoor.EqKit

/-- the blocks os stand, and nothing that was there is changed -/
def Held (w : World) (os : List (Nat × Obj)) (w' : World) : Prop := (∀ r ∈ os, w'.heap[r.1]? = some r.2) ∧ Fr0 w w'
theorem Held.keep {w w1 w2 : World} {os : List (Nat × Obj)} (hf : Fr0 w1 w2) (h : Held w os w1) : Held w os w2 := ⟨fun r hr => hf.keep (h.1 r hr) (fun h => h), h.2.then0 hf⟩
theorem Held.drew {w w1 : World} {os : List (Nat × Obj)} (h : Held w os w1) : Held w os w1.drew := ⟨h.1, h.2.drew⟩
theorem Held.f {w w1 : World} {os : List (Nat × Obj)} (h : Held w os w1) : Fr0 w w1 := h.2
theorem Held.a0 {w w1 : World} {r : Nat × Obj} {os : List (Nat × Obj)} (h : Held w (r :: os) w1) : w1.heap[r.1]? = some r.2 := h.1 _ (List.mem_cons_self ..)
theorem Held.tl {w w1 : World} {r : Nat × Obj} {os : List (Nat × Obj)} (h : Held w (r :: os) w1) : Held w os w1 := ⟨fun r hr => h.1 r (List.mem_cons_of_mem _ hr), h.2⟩
theorem Held.nil {w w1 : World} (h : Fr0 w w1) : Held w [] w1 := ⟨fun r hr => (by cases hr), h⟩
theorem Held.cons {w w1 : World} {g : Nat} {o : Obj} {os : List (Nat × Obj)} (h0 : w1.heap[g]? = some o) (h : Held w os w1) : Held w ((g, o) :: os) w1 := ⟨fun r hr => by
  rcases List.mem_cons.1 hr with rfl | hr
  · exact h0
  · exact h.1 r hr, h.2⟩
theorem yields_row {P : Program} {ops : Array Oper} {S : World → Prop} {op : Oper} {a : Act} (hw : Region.wanted op (yielded ops a.tmps) = true) (ty : TypeId) (x : Operand) (ho : op.op = .load ty x)
    (g : Nat) (hx : a.eval x = .pointer (some ⟨g, 0, none⟩)) (t : TypeId) (cs : Array Value) (fr : Nat × Nat) (d : TypeDesc) (hS : ∀ w, S w → w.heap[g]? = some (.cells cs t fr))
    (hu : P.underlying ty = some d) (hd : (match d with | .struct _ | .array _ _ => true | _ => false) = true) (hi : (P.info? ty).map (·.size) = some cs.size) : YieldsIf P ops S op (.agg cs) a :=
  .inl ⟨hw, fun w hw' => by
    unfold execOp
    simp only [ho, hx, Instr.loadAt, Instr.sureAddr, Sem.run_bind, Sem.run_pure, Result.andThen_ok, run_loadVar_row w g t ty cs fr d (hS w hw') hu hd hi]⟩
theorem results_ct {P : Program} {fn : Func} {p u : Tmp} {ty : TypeId} (h : fn.results = #[.cell p ty, .tmp u]) (tmps : Array Value) (w : World) (g : Nat) (t : TypeId) (cs : Array Value) (fr : Nat × Nat) (d : TypeDesc)
    (hp : tmps.getD p undef = .pointer (some ⟨g, 0, none⟩)) (hg : w.heap[g]? = some (.cells cs t fr))
    (hu : P.underlying ty = some d) (hd : (match d with | .struct _ | .array _ _ => true | _ => false) = true) (hi : (P.info? ty).map (·.size) = some cs.size) :
    (results fn tmps).run P w = .ok (.tuple #[.agg cs, tmps.getD u undef]) w := by
  have hp' : tmps[p]?.getD undef = .pointer (some ⟨g, 0, none⟩) := by simpa using hp
  simp [results, h, hp', asAddr, run_loadVar_row w g t ty cs fr d hg hu hd hi]
/-- the end of a function whose results are a row in memory and a number -/
theorem fin_ct {P : Program} {fn : Func} {R : Ending → World → Prop} {a : Act} {w : World} {p u : Tmp} {ty : TypeId} (g : Nat) (t : TypeId) (cs : Array Value) (x : Value) {d : TypeDesc}
    (h : fn.results = #[.cell p ty, .tmp u]) (hp : a.tmps.getD p undef = .pointer (some ⟨g, 0, none⟩)) (hx : a.tmps.getD u undef = x) (hds : a.defers = [])
    (hu : P.underlying ty = some d) (hd : (match d with | .struct _ | .array _ _ => true | _ => false) = true) (hi : (P.info? ty).map (·.size) = some cs.size)
    (hg : w.heap[g]? = some (.cells cs t (0, 0))) (hR : R (.returned (.tuple #[.agg cs, x])) w) : bodyPost P fn R .ret a w := by
  subst hx
  exact bodyPost_ret (results_ct h _ _ g t cs (0, 0) d hp hg hu hd hi) hds hR

/-! ### Short words for the steps of regions that draw their order -/
section
universe u
variable {α : Type u}
theorem zA {xs : List α} {i : Nat} (h : i < xs.toArray.size) : xs.toArray[i] = xs[i]'(by simpa using h) := rfl
theorem zB (a : α) (as : List α) (i : Nat) (h : i + 1 < (a :: as).length) : (a :: as)[i + 1] = as[i]'(by simpa using h) := rfl
theorem zC (a : α) (as : List α) (h : 0 < (a :: as).length) : (a :: as)[0] = a := rfl
theorem zD (l : List α) (i : Nat) (a : α) : l.toArray.setIfInBounds i a = (l.set i a).toArray := List.setIfInBounds_toArray l i a
theorem zE {x : α} {xs : List α} {a : α} : (x :: xs).set 0 a = a :: xs := rfl
theorem zF {x : α} {xs : List α} {i : Nat} {a : α} : (x :: xs).set (i + 1) a = x :: xs.set i a := rfl
end
theorem tk {P : Program} {md : Region.Mode} {ops : Array Oper} {Q : Exit → Act → World → Prop} {S : World → Prop} {i : Nat} {oi : Oper} {v : Value} {fuel : Nat} {listed : Array Bool} {a : Act} {w : World} (hi : ops[i]? = some oi) (hy : YieldsIf P ops S oi v a) (hS : S w)
    (h : wpAnyH P md ops Q S fuel (listed.setIfInBounds i true) (a.put oi.dst v) w) (hs : Region.noSelect ops = true := by kernel_rfl) (hf : Region.free md ops listed i = true := by kernel_rfl) (hr : (Region.ready md ops listed).contains i = true := by kernel_rfl)
    (hQ : ∀ c a w, Q (.panic c) (a.put oi.dst v) w → Q (.panic c) a w := by exact fun _ _ _ h => h) : wpAnyH P md ops Q S (fuel + 1) listed a w := wpAnyH_take hi hs hf hr hQ hy hS h
theorem tk0 {P : Program} {md : Region.Mode} {ops : Array Oper} {Q : Exit → Act → World → Prop} {S : World → Prop} {i : Nat} {oi : Oper} {v : Value} {fuel : Nat} {listed : Array Bool} {a : Act} {w : World} (hi : ops[i]? = some oi) (hS : S w)
    (h : wpAnyH P md ops Q S fuel (listed.setIfInBounds i true) (a.put oi.dst v) w) (hy : YieldsIf P ops S oi v a := by exact Or.inl ⟨by kernel_rfl, fun w hSw => by first | kernel_rfl | (go_simp; done)⟩) (hs : Region.noSelect ops = true := by kernel_rfl) (hf : Region.free md ops listed i = true := by kernel_rfl) (hr : (Region.ready md ops listed).contains i = true := by kernel_rfl)
    (hQ : ∀ c a w, Q (.panic c) (a.put oi.dst v) w → Q (.panic c) a w := by exact fun _ _ _ h => h) : wpAnyH P md ops Q S (fuel + 1) listed a w := wpAnyH_take hi hs hf hr hQ hy hS h

end Go.Proofs.YtlleandelcjhjaaDoor.HeldKit
