/- The theorems that the claim uses, text behind text (part 1). -/
import Derived.Below
import Derived.Laws.Rows
import Derived.Deep.MidRow
import Derived.Deep.Draws
import Derived.Laws.Slices
import Derived.WalkKit
import Derived.Lib.Hide
import Derived.RowKit
import Derived.Laws.BitsLemmas
import Derived.Outline
import Derived.LoopTactic
import Derived.Laws.Tables
import Derived.StillTailTactics
import Derived.BigQuiet
import Derived.Deep.QuietTactic
import Derived.DeepKeys
import Derived.Laws.StructEq
import Derived.Deep.RegionHeld3
import Derived.Laws.Build
import Derived.Laws.AppendOwn
set_option linter.unusedVariables false
set_option linter.unusedSimpArgs false
set_option maxRecDepth 100000
set_option maxHeartbeats 8000000
namespace Go.Proofs.YtmkmpfnadcmcoaaGreatDoor.K
open Go Go.RowKit
variable {P : Program}
theorem sc_other (w : World) (a : Addr) (k : Nat) (v : Value) (h : k ≠ a.block) : (w.setCell a v).heap[k]? = w.heap[k]? := by
 simp only [World.setCell, Array.getElem?_modify]
 rw [if_neg (fun e => h e.symm)]

theorem al_old (w : World) (o : Obj) (i : Nat) (h : i < w.heap.size) : (w.alloc o).heap[i]? = w.heap[i]? := by
 show (w.heap.push o)[i]? = w.heap[i]?
 rw [Array.getElem?_push, if_neg (Nat.ne_of_lt h)]

abbrev Bk (w : World) (g : Nat) (cs : Array Value) (t : TypeId) : Prop := w.heap[g]? = some (.cells cs t (0, 0))
def Jq7 (p : Prop) : Prop := p
theorem Jq7.o {p : Prop} (h : Jq7 p) : p := h
theorem jq7 {p : Prop} (h : p) : Jq7 p := h
theorem Bk.lt {w : World} {g : Nat} {o : Obj} (h : w.heap[g]? = some o) : g < w.heap.size := by
 by_cases hlt : g < w.heap.size
 ·exact hlt
 ·rw [Array.getElem?_eq_none (by omega)] at h;cases h
theorem Bk.cell {w : World} {g : Nat} {t : TypeId} {cs : Array Value} (h : Bk w g cs t) (i : Nat) : w.cell? ⟨g, i, none⟩ = cs[i]? := cell_of_row w g i cs t (0, 0) h
theorem Bk.free {w : World} {g : Nat} {t : TypeId} {cs : Array Value} (h : Bk w g cs t) (i : Nat) : w.frozen? ⟨g, i, none⟩ = false := frozen_of_row w g i cs t h
theorem Bk.set {w : World} {g : Nat} {t : TypeId} {cs : Array Value} (h : Bk w g cs t) (i : Nat) (v : Value) : Bk (w.setCell ⟨g, i, none⟩ v) g (cs.setIfInBounds i v) t := heap_setCell_same w g i cs t v h
theorem Bk.setOther {w : World} {g : Nat} {o : Obj} (h : w.heap[g]? = some o) (a : Addr) (v : Value) (hne : g ≠ a.block) : (w.setCell a v).heap[g]? = some o := (sc_other w a g v hne).trans h
theorem Bk.new (w : World) (o : Obj) : (w.alloc o).heap[w.heap.size]? = some o := heap_alloc_new w o
theorem Bk.alloc {w : World} {g : Nat} {o : Obj} (h : w.heap[g]? = some o) (o' : Obj) : (w.alloc o').heap[g]? = some o := (al_old w o' g (Bk.lt h)).trans h
theorem Bk.drew {w : World} {g : Nat} {o : Obj} (h : w.heap[g]? = some o) : w.drew.heap[g]? = some o := h
theorem Bk.drewN {w : World} {g : Nat} {o : Obj} (h : w.heap[g]? = some o) (n : Nat) : (w.drewN n).heap[g]? = some o := h

structure Fr (S : Nat → Prop) (w w' : World) : Prop where
 os : w'.os = w.os
 tape : w'.tape = w.tape
 output : w'.output = w.output
 size : w.heap.size ≤ w'.heap.size
 block : ∀ i, i < w.heap.size → ¬ S i → w'.heap[i]? = w.heap[i]?
abbrev Fr0 (w w' : World) : Prop := Fr (fun _ => False) w w'
theorem Fr.refl (S : Nat → Prop) (w : World) : Fr S w w := ⟨rfl, rfl, rfl, Nat.le_refl _, fun _ _ _ => rfl⟩
theorem Fr.trans {S : Nat → Prop} {w w1 w2 : World} (h : Fr S w w1) (k : Fr S w1 w2) : Fr S w w2 :=
 ⟨k.os.trans h.os, k.tape.trans h.tape, k.output.trans h.output, Nat.le_trans h.size k.size, fun i hi hs => (k.block i (Nat.lt_of_lt_of_le hi h.size) hs).trans (h.block i hi hs)⟩
theorem Fr.weaken {S S' : Nat → Prop} {w w1 : World} (h : Fr S w w1) (hs : ∀ i, i < w.heap.size → S i → S' i) : Fr S' w w1 :=
 ⟨h.os, h.tape, h.output, h.size, fun i hi hn => h.block i hi (fun hS => hn (hs i hi hS))⟩
theorem Fr.then {S S' : Nat → Prop} {w w1 w2 : World} (h : Fr S w w1) (k : Fr S' w1 w2) (hs : ∀ i, i < w.heap.size → S' i → S i) : Fr S w w2 :=
 ⟨k.os.trans h.os, k.tape.trans h.tape, k.output.trans h.output, Nat.le_trans h.size k.size, fun i hi hn => (k.block i (Nat.lt_of_lt_of_le hi h.size) (fun hS => hn (hs i hi hS))).trans (h.block i hi hn)⟩
theorem Fr.then0 {S : Nat → Prop} {w w1 w2 : World} (h : Fr S w w1) (k : Fr0 w1 w2) : Fr S w w2 := h.then k (fun _ _ h => h.elim)
theorem Fr.alloc {S : Nat → Prop} {w w1 : World} (h : Fr S w w1) (o : Obj) : Fr S w (w1.alloc o) :=
 h.then0 ⟨rfl, rfl, rfl, by simp, fun i hi _ => al_old w1 o i hi⟩
theorem Fr.drew {S : Nat → Prop} {w w1 : World} (h : Fr S w w1) : Fr S w w1.drew := ⟨h.os, h.tape, h.output, h.size, h.block⟩
theorem Fr.drewN {S : Nat → Prop} {w w1 : World} (h : Fr S w w1) (n : Nat) : Fr S w (w1.drewN n) := ⟨h.os, h.tape, h.output, h.size, h.block⟩
theorem Fr.set {S : Nat → Prop} {w w1 : World} (h : Fr S w w1) (a : Addr) (v : Value) (ha : w.heap.size ≤ a.block ∨ S a.block) : Fr S w (w1.setCell a v) :=
 ⟨h.os, h.tape, h.output, by simpa [World.setCell] using h.size, fun i hi hs => (sc_other w1 a i v (fun e => by
  subst e
  rcases ha with ha | ha
  ·omega
  ·exact hs ha)).trans (h.block i hi hs)⟩
theorem Fr0.below {w w' : World} (h : Fr0 w w') : Below w.heap.size w w' := ⟨h.os, h.tape, h.output, h.size, fun i hi => h.block i hi (fun h => h)⟩
theorem Fr0.of_below {w w' : World} (h : Below w.heap.size w w') : Fr0 w w' := ⟨h.os, h.tape, h.output, h.size, fun i hi _ => h.block i hi⟩
theorem Fr.keep {S : Nat → Prop} {w w1 : World} (h : Fr S w w1) {g : Nat} {o : Obj} (hg : w.heap[g]? = some o) (hs : ¬ S g) : w1.heap[g]? = some o := (h.block g (Bk.lt hg) hs).trans hg
theorem Fr.cell {S : Nat → Prop} {w w1 : World} (h : Fr S w w1) (b o : Nat) (hb : b < w.heap.size) (hs : ¬ S b) : w1.cell? ⟨b, o, none⟩ = w.cell? ⟨b, o, none⟩ := by
 simp only [World.cell?, h.block b hb hs]
theorem Fr.froz {S : Nat → Prop} {w w1 : World} (h : Fr S w w1) (b o : Nat) (hb : b < w.heap.size) (hs : ¬ S b) : w1.frozen? ⟨b, o, none⟩ = w.frozen? ⟨b, o, none⟩ := by
 simp only [World.frozen?, h.block b hb hs]
theorem Fr.lt {S : Nat → Prop} {w w1 : World} (h : Fr S w w1) {g : Nat} (hg : g < w.heap.size) : g < w1.heap.size := Nat.lt_of_lt_of_le hg h.size

def B (v : UInt8) : Value := .int .u8 (v.toNat : Int)
theorem B_def (v : UInt8) : B v = .int .u8 (v.toNat : Int) := rfl
theorem B_ofNat (n : Nat) : B (UInt8.ofNat n) = .int .u8 ((n % 256 : Nat) : Int) := by simp [B, UInt8.toNat_ofNat']
def Rd (w : World) (A : Option Addr) (l : List UInt8) : Prop := ∀ i (h : i < l.length), ∃ a, A = some a ∧ w.cell? (a.add i) = some (B l[i])
theorem add_form (b o i : Nat) : (⟨b, o, none⟩ : Addr).add i = ⟨b, o + i, none⟩ := Addr.add_mid b o i
theorem Rd.form {w : World} {A : Option Addr} {l : List UInt8} (h : Rd w A l) (hl : 0 < l.length) : ∃ b o, A = some ⟨b, o, none⟩ ∧ b < w.heap.size ∧ ∀ i (h : i < l.length), w.cell? ⟨b, o + i, none⟩ = some (B l[i]) := by
 obtain ⟨a, rfl, hc⟩ := h 0 hl
 obtain ⟨b, o, sp⟩ := a
 have hsp : sp = none := by
  cases sp with
  | none => rfl
  | some s =>
   simp only [Addr.add, if_true, World.cell?] at hc
   split at hc <;> simp at hc
 subst hsp
 have hb : b < w.heap.size := by
  have := World.block_lt_of_cell? w _ hc
  rwa [add_form] at this
 refine ⟨b, o, rfl, hb, fun i hi => ?_⟩
 obtain ⟨a', e, hc'⟩ := h i hi
 obtain rfl := Option.some.inj e
 rwa [add_form] at hc'
theorem Rd.of {w : World} {b o : Nat} {l : List UInt8} (h : ∀ i (h : i < l.length), w.cell? ⟨b, o + i, none⟩ = some (B l[i])) : Rd w (some ⟨b, o, none⟩) l :=
 fun i hi => ⟨_, rfl, by rw [add_form];exact h i hi⟩
theorem Rd.nil (w : World) (A : Option Addr) : Rd w A [] := fun i h => by simp at h
theorem Rd.later {S : Nat → Prop} {w w1 : World} {A : Option Addr} {l : List UInt8} (h : Rd w A l) (f : Fr S w w1) (hs : ∀ a, A = some a → ¬ S a.block) : Rd w1 A l := by
 by_cases hl : 0 < l.length
 ·obtain ⟨b, o, rfl, hb, hc⟩ := h.form hl
  exact Rd.of fun i hi => (f.cell b (o + i) hb (hs _ rfl)).trans (hc i hi)
 ·have : l = [] := List.eq_nil_of_length_eq_zero (by omega)
  subst this
  exact Rd.nil _ _
theorem Rd.past {S : Nat → Prop} {w0 w w1 : World} {A : Option Addr} {l : List UInt8} (h0 : Rd w0 A l) (h : Rd w A l) (f : Fr S w w1) (hs : ∀ b, b < w0.heap.size → ¬ S b) : Rd w1 A l := by
 by_cases hl : 0 < l.length
 ·obtain ⟨b, o, rfl, hb, -⟩ := h0.form hl
  exact h.later f (fun a e => by obtain rfl := Option.some.inj e;exact hs b hb)
 ·have : l = [] := List.eq_nil_of_length_eq_zero (by omega)
  subst this
  exact Rd.nil _ _
theorem Rd.block {w : World} {g : Nat} {cs : Array Value} {t : TypeId} (h : Bk w g cs t) {o : Nat} {l : List UInt8} (hl : ∀ i (h : i < l.length), cs[o + i]? = some (B l[i])) : Rd w (some ⟨g, o, none⟩) l :=
 Rd.of fun i hi => (h.cell (o + i)).trans (hl i hi)

theorem wrap_u32 (n : Int) : IntKind.u32.wrap n = n % 4294967296 := by simp [IntKind.wrap, IntKind.bits, IntKind.signed]
theorem wraps_u8 (n : Int) (h₀ : 0 ≤ n) (h₁ : n < 2 ^ 8) : IntKind.u8.wrap n = n := by rw [IntKind.wrap_u8];omega
theorem wraps_u32 (n : Int) (h₀ : 0 ≤ n) (h₁ : n < 2 ^ 32) : IntKind.u32.wrap n = n := by rw [wrap_u32];omega
theorem or_u8 (a b : Nat) (ha : a < 2 ^ 8) (hb : b < 2 ^ 8) : bits .or .u8 a b = ((a ||| b : Nat) : Int) := (bits_nat .u8 8 (by decide) wraps_u8 a b ha hb).2
def lay (cs : Array Value) (o : Nat) : List Value → Array Value
 | [] => cs
 | v :: r => lay (cs.setIfInBounds o v) (o + 1) r
@[simp] theorem lay_size (vs : List Value) : ∀ (cs : Array Value) (o : Nat), (lay cs o vs).size = cs.size := by
 induction vs with
 | nil => intro cs o;rfl
 | cons v r ih => intro cs o;simp [lay, ih]
theorem lay_get (vs : List Value) : ∀ (cs : Array Value) (o i : Nat), (lay cs o vs)[i]? = if o ≤ i ∧ i < o + vs.length ∧ i < cs.size then vs[i - o]? else cs[i]? := by
 induction vs with
 | nil => intro cs o i;simp only [lay, List.length_nil];rw [if_neg (by omega)]
 | cons v r ih =>
  intro cs o i
  simp only [lay]
  rw [ih, Array.getElem?_setIfInBounds, Array.size_setIfInBounds, List.length_cons]
  by_cases h1 : o + 1 ≤ i ∧ i < o + 1 + r.length ∧ i < cs.size
  ·rw [if_pos h1, if_pos (by omega), show i - o = (i - (o + 1)) + 1 by omega, List.getElem?_cons_succ]
  ·rw [if_neg h1]
   by_cases h2 : o = i
   ·subst h2
    by_cases h3 : o < cs.size
    ·rw [if_pos rfl, if_pos h3, if_pos (by omega)];simp
    ·rw [if_pos rfl, if_neg h3, if_neg (by omega), Array.getElem?_eq_none (by omega)]
   ·rw [if_neg h2, if_neg (by omega)]
theorem lay_snoc (vs : List Value) (v : Value) : ∀ (cs : Array Value) (o : Nat), lay cs o (vs ++ [v]) = (lay cs o vs).setIfInBounds (o + vs.length) v := by
 induction vs with
 | nil => intro cs o;rfl
 | cons u r ih => intro cs o;simp only [List.cons_append, lay, ih, List.length_cons];rw [show o + 1 + r.length = o + (r.length + 1) by omega]
theorem lay_take {cs : Array Value} {o k : Nat} {vs : List Value} (hk : k < vs.length) : lay cs o (vs.take (k + 1)) = (lay cs o (vs.take k)).setIfInBounds (o + k) vs[k] := by
 rw [List.take_succ_eq_append_getElem hk, lay_snoc, List.length_take, Nat.min_eq_left (by omega)]

end Go.Proofs.YtmkmpfnadcmcoaaGreatDoor.K
namespace Go.Proofs.YtmkmpfnadcmcoaaGreatDoor.ArrKit
open Go Go.RowKit K
theorem Bk.row {w : World} {g : Nat} {t : TypeId} {cs : Array Value} (h : Bk w g cs t) (c' : Array Value) : Bk (w.setRow g c') g c' t := setRow_heap w g cs c' t (0, 0) h
theorem Bk.rowOther {w : World} {g k : Nat} {o : Obj} (h : w.heap[k]? = some o) (c' : Array Value) (hne : k ≠ g) : (w.setRow g c').heap[k]? = some o := (setRow_other w g k c' hne).trans h
theorem Fr.row {S : Nat → Prop} {w w1 : World} (h : Fr S w w1) (g : Nat) (c' : Array Value) (hg : w.heap.size ≤ g ∨ S g) : Fr S w (w1.setRow g c') where
 os := h.os
 tape := h.tape
 output := h.output
 size := by rw [size_setRow];exact h.size
 block := fun i hi hs => by
  rw [setRow_other _ _ _ _ (by rintro rfl;rcases hg with hg | hg;omega;exact hs hg)]
  exact h.block i hi hs
theorem fin_c {P : Program} {fn : Func} {R : Ending → World → Prop} {a : Act} {w : World} {p : Tmp} {ty : TypeId} (g : Nat) (t : TypeId) (cs : Array Value) {d : TypeDesc}
  (h : fn.results = #[.cell p ty]) (hp : a.tmps.getD p undef = .pointer (some ⟨g, 0, none⟩)) (hds : a.defers = [])
  (hu : P.underlying ty = some d) (hd : (match d with | .struct _ | .array _ _ => true | _ => false) = true) (hi : (P.info? ty).map (·.size) = some cs.size)
  (hg : w.heap[g]? = some (.cells cs t (0, 0))) (hR : R (.returned (.agg cs)) w) : bodyPost P fn R .ret a w :=
 bodyPost_ret (results_cell_row h _ _ g t cs (0, 0) d hp hg hu hd hi) hds hR

end Go.Proofs.YtmkmpfnadcmcoaaGreatDoor.ArrKit
namespace Go.Proofs.YtmkmpfnadcmcoaaGreatDoor.EqKit
open Go Go.RowKit K
theorem map_inj {α β : Type} {f : α → β} (hf : ∀ a b, f a = f b → a = b) : ∀ {l m : List α}, l.map f = m.map f → l = m
 | [], [], _ => rfl
 | [], _ :: _, h => by simp at h
 | _ :: _, [], h => by simp at h
 | a :: l, b :: m, h => by
  simp only [List.map_cons, List.cons.injEq] at h
  rw [hf _ _ h.1, map_inj hf h.2]
theorem mapM_some {α β : Type} (f : α → Option β) (g : α → β) : ∀ (l : List α), (∀ x ∈ l, f x = some (g x)) → l.mapM f = some (l.map g)
 | [], _ => rfl
 | x :: r, h => by
  rw [List.mapM_cons, h x (List.mem_cons_self ..), mapM_some f g r (fun y hy => h y (List.mem_cons_of_mem _ hy))]
  rfl
theorem lits_row {P : Program} {t e : TypeId} {n : Nat} {k : IntKind} (d : Nat) (ht : P.underlying t = some (.array n e)) (he : P.underlying e = some (.int k)) (hce : P.cellsOf e = 1) (hct : P.cellsOf t = n)
  (zs : List Int) (hl : zs.length = n) (hw : ∀ z ∈ zs, (Lit.int k z).wf = true) : P.keyLits (d + 2) t (zs.map (.int k ·)) = some (zs.map (Lit.int k ·)) := by
 unfold Program.keyLits
 rw [ht]
 simp only [List.length_map, hl, hct, if_true, hce, Nat.mul_one]
 rw [mapM_some _ (fun i => [Lit.int k (zs.getD i 0)]) _ (fun i hi => by
  have hin : i < zs.length := by rw [hl];exact List.mem_range.1 hi
  rw [List.drop_eq_getElem_cons (by simpa using hin), List.take_succ_cons, List.take_zero]
  unfold Program.keyLits
  rw [he, List.getElem_map]
  simp [hw _ (List.getElem_mem hin), List.getD, List.getElem?_eq_getElem hin])]
 simp only [Option.map_some, Option.some.injEq]
 apply List.ext_getElem?
 intro i
 rw [show (List.map (fun i => [Lit.int k (zs.getD i 0)]) (List.range n)).flatten = (List.range n).map (fun i => Lit.int k (zs.getD i 0)) by
  induction (List.range n) with
  | nil => rfl
  | cons x r ih => rw [List.map_cons, List.flatten_cons, ih];rfl]
 rw [List.getElem?_map, List.getElem?_map]
 by_cases hi : i < n
 ·rw [List.getElem?_range hi, List.getElem?_eq_getElem (by omega)]
  simp [List.getD, List.getElem?_eq_getElem (show i < zs.length by omega)]
 ·rw [List.getElem?_eq_none (by simp;omega), List.getElem?_eq_none (by omega)]
  rfl
theorem eq_row {P : Program} {t e : TypeId} {n : Nat} {k : IntKind} (ht : P.underlying t = some (.array n e)) (he : P.underlying e = some (.int k)) (hce : P.cellsOf e = 1) (hct : P.cellsOf t = n) (hk : P.keyTypeAt 2 t = true)
  (zs ys : List Int) (hl : zs.length = n) (hm : ys.length = n) (hw : ∀ z ∈ zs, (Lit.int k z).wf = true) (hv : ∀ z ∈ ys, (Lit.int k z).wf = true) (W : World) :
  (Op.equalIn 10000 t (.agg (zs.map (.int k ·)).toArray) (.agg (ys.map (.int k ·)).toArray)).run P W = .ok (decide (zs = ys)) W := by
 obtain ⟨r, hr, hiff⟩ := run_equalIn_deep 9998 2 t hk W 2 2 (.agg (zs.map (Value.int k ·)).toArray) (.agg (ys.map (Value.int k ·)).toArray) (zs.map (Lit.int k ·)) (ys.map (Lit.int k ·)) (by simp [Value.formed, ht, hl, hct]) (by simp [Value.formed, ht, hm, hct]) (lits_row 0 ht he hce hct zs hl hw) (lits_row 0 ht he hce hct ys hm hv)
 rw [show (10000 : Nat) = 9998 + 2 from rfl, hr]
 congr 1
 rw [Bool.eq_iff_iff, hiff, decide_eq_true_eq]
 constructor
 ·intro h
  exact map_inj (fun a b e => by simpa using e) h
 ·rintro rfl;rfl
theorem run_eql_op {P : Program} {o : Oper} {a : Act} {x y : Operand} {t u : TypeId} {X Y : Array Value} {b : Bool} (ho : o.op = .binOp .eql t x y u) (hx : a.eval x = .agg X) (hy : a.eval y = .agg Y) (hm : P.eqGuardType P.depth t = false)
  (heq : ∀ W, (Op.equalIn 10000 t (.agg X) (.agg Y)).run P W = .ok b W) (w : World) : (execOp a.eval o).run P w = .ok (.value (.bool b)) w := by
 unfold execOp
 simp only [ho, hx, hy, Sem.run_bind, run_eql_struct, heq, Result.andThen, Sem.run_pure, run_eqGuard_agg _ _ _ _ _ _ _ hm]
theorem wf_u8 (v : UInt8) : (Lit.int .u8 (v.toNat : Int)).wf = true := by
 have := v.toNat_lt
 simp [Lit.wf, IntKind.min, IntKind.max, IntKind.signed, IntKind.bits]
 omega
theorem eq_bytes {P : Program} {t e : TypeId} {n : Nat} (ht : P.underlying t = some (.array n e)) (he : P.underlying e = some (.int .u8)) (hce : P.cellsOf e = 1) (hct : P.cellsOf t = n) (hk : P.keyTypeAt 2 t = true)
  (l m : List UInt8) (hl : l.length = n) (hm : m.length = n) (W : World) : (Op.equalIn 10000 t (.agg (l.map B).toArray) (.agg (m.map B).toArray)).run P W = .ok (decide (l = m)) W := by
 have h := eq_row ht he hce hct hk (l.map fun v => (v.toNat : Int)) (m.map fun v => (v.toNat : Int)) (by simpa using hl) (by simpa using hm) (fun z hz => by
  obtain ⟨v, -, rfl⟩ := List.mem_map.1 hz
  exact wf_u8 v) (fun z hz => by
  obtain ⟨v, -, rfl⟩ := List.mem_map.1 hz
  exact wf_u8 v) W
 simp only [List.map_map] at h
 have e1 : ∀ l : List UInt8, List.map ((fun x => Value.int .u8 x) ∘ fun v : UInt8 => (v.toNat : Int)) l = l.map B := fun l => rfl
 rw [e1, e1] at h
 rw [h]
 congr 1
 rw [Bool.eq_iff_iff, decide_eq_true_eq, decide_eq_true_eq]
 constructor
 ·intro h
  exact map_inj (fun a b e => UInt8.toNat_inj.1 (Int.ofNat.inj e)) h
 ·rintro rfl;rfl

end Go.Proofs.YtmkmpfnadcmcoaaGreatDoor.EqKit
namespace Go.Proofs.YtmkmpfnadcmcoaaGreatDoor.HeldKit
open Go Go.RowKit K ArrKit EqKit
def Held (w : World) (os : List (Nat × Obj)) (w' : World) : Prop := (∀ r ∈ os, w'.heap[r.1]? = some r.2) ∧ Fr0 w w'
theorem Held.keep {w w1 w2 : World} {os : List (Nat × Obj)} (hf : Fr0 w1 w2) (h : Held w os w1) : Held w os w2 := ⟨fun r hr => hf.keep (h.1 r hr) (fun h => h), h.2.then0 hf⟩
theorem Held.drew {w w1 : World} {os : List (Nat × Obj)} (h : Held w os w1) : Held w os w1.drew := ⟨h.1, h.2.drew⟩
theorem Held.f {w w1 : World} {os : List (Nat × Obj)} (h : Held w os w1) : Fr0 w w1 := h.2
theorem Held.a0 {w w1 : World} {r : Nat × Obj} {os : List (Nat × Obj)} (h : Held w (r :: os) w1) : w1.heap[r.1]? = some r.2 := h.1 _ (List.mem_cons_self ..)
theorem Held.tl {w w1 : World} {r : Nat × Obj} {os : List (Nat × Obj)} (h : Held w (r :: os) w1) : Held w os w1 := ⟨fun r hr => h.1 r (List.mem_cons_of_mem _ hr), h.2⟩
theorem Held.nil {w w1 : World} (h : Fr0 w w1) : Held w [] w1 := ⟨fun r hr => (by cases hr), h⟩
theorem Held.cons {w w1 : World} {g : Nat} {o : Obj} {os : List (Nat × Obj)} (h0 : w1.heap[g]? = some o) (h : Held w os w1) : Held w ((g, o) :: os) w1 := ⟨fun r hr => by
 rcases List.mem_cons.1 hr with rfl | hr
 ·exact h0
 ·exact h.1 r hr, h.2⟩
theorem yields_row {P : Program} {ops : Array Oper} {S : World → Prop} {op : Oper} {a : Act} (hw : Region.wanted op (yielded ops a.tmps) = true) (ty : TypeId) (x : Operand) (ho : op.op = .load ty x)
  (g : Nat) (hx : a.eval x = .pointer (some ⟨g, 0, none⟩)) (t : TypeId) (cs : Array Value) (fr : Nat × Nat) (d : TypeDesc) (hS : ∀ w, S w → w.heap[g]? = some (.cells cs t fr))
  (hu : P.underlying ty = some d) (hd : (match d with | .struct _ | .array _ _ => true | _ => false) = true) (hi : (P.info? ty).map (·.size) = some cs.size) : YieldsIf P ops S op (.agg cs) a :=
 .inl ⟨hw, fun w hw' => by
  unfold execOp
  simp only [ho, hx, Instr.loadAt, Instr.sureAddr, Sem.run_bind, Sem.run_pure, Result.andThen_ok, run_loadVar_row w g t ty cs fr d (hS w hw') hu hd hi]⟩
theorem results_ct {P : Program} {fn : Func} {p u : Tmp} {ty : TypeId} (h : fn.results = #[.cell p ty, .tmp u]) (tmps : Array Value) (w : World) (g : Nat) (t : TypeId) (cs : Array Value) (fr : Nat × Nat) (d : TypeDesc)
  (hp : tmps.getD p undef = .pointer (some ⟨g, 0, none⟩)) (hg : w.heap[g]? = some (.cells cs t fr))
  (hu : P.underlying ty = some d) (hd : (match d with | .struct _ | .array _ _ => true | _ => false) = true) (hi : (P.info? ty).map (·.size) = some cs.size) :
  (results fn tmps).run P w = .ok (.tuple #[.agg cs, tmps.getD u undef]) w := by
 have hp' : tmps[p]?.getD undef = .pointer (some ⟨g, 0, none⟩) := by simpa using hp
 simp [results, h, hp', asAddr, run_loadVar_row w g t ty cs fr d hg hu hd hi]
theorem fin_ct {P : Program} {fn : Func} {R : Ending → World → Prop} {a : Act} {w : World} {p u : Tmp} {ty : TypeId} (g : Nat) (t : TypeId) (cs : Array Value) (x : Value) {d : TypeDesc}
  (h : fn.results = #[.cell p ty, .tmp u]) (hp : a.tmps.getD p undef = .pointer (some ⟨g, 0, none⟩)) (hx : a.tmps.getD u undef = x) (hds : a.defers = [])
  (hu : P.underlying ty = some d) (hd : (match d with | .struct _ | .array _ _ => true | _ => false) = true) (hi : (P.info? ty).map (·.size) = some cs.size)
  (hg : w.heap[g]? = some (.cells cs t (0, 0))) (hR : R (.returned (.tuple #[.agg cs, x])) w) : bodyPost P fn R .ret a w := by
 subst hx
 exact bodyPost_ret (results_ct h _ _ g t cs (0, 0) d hp hg hu hd hi) hds hR

section
universe u
variable {α : Type u}
theorem zA {xs : List α} {i : Nat} (h : i < xs.toArray.size) : xs.toArray[i] = xs[i]'(by simpa using h) := rfl
theorem zB (a : α) (ys : List α) (i : Nat) (h : i + 1 < (a :: ys).length) : (a :: ys)[i + 1] = ys[i]'(by simpa using h) := rfl
theorem zC (a : α) (ys : List α) (h : 0 < (a :: ys).length) : (a :: ys)[0] = a := rfl
theorem zD (l : List α) (i : Nat) (a : α) : l.toArray.setIfInBounds i a = (l.set i a).toArray := List.setIfInBounds_toArray l i a
theorem zE {x : α} {xs : List α} {a : α} : (x :: xs).set 0 a = a :: xs := rfl
theorem zF {x : α} {xs : List α} {i : Nat} {a : α} : (x :: xs).set (i + 1) a = x :: xs.set i a := rfl
end
theorem tk {P : Program} {md : Region.Mode} {ops : Array Oper} {Q : Exit → Act → World → Prop} {S : World → Prop} {i : Nat} {oi : Oper} {v : Value} {fuel : Nat} {listed : Array Bool} {a : Act} {w : World} (hi : ops[i]? = some oi) (hy : YieldsIf P ops S oi v a) (hS : S w)
  (h : wpAnyH P md ops Q S fuel (listed.setIfInBounds i true) (a.put oi.dst v) w) (hs : Region.noSelect ops = true := by kernel_rfl) (hf : Region.free md ops listed i = true := by kernel_rfl) (hr : (Region.ready md ops listed).contains i = true := by kernel_rfl)
  (hQ : ∀ c a w, Q (.panic c) (a.put oi.dst v) w → Q (.panic c) a w := by exact fun _ _ _ h => h) : wpAnyH P md ops Q S (fuel + 1) listed a w := wpAnyH_take hi hs hf hr hQ hy hS h
theorem tk0 {P : Program} {md : Region.Mode} {ops : Array Oper} {Q : Exit → Act → World → Prop} {S : World → Prop} {i : Nat} {oi : Oper} {v : Value} {fuel : Nat} {listed : Array Bool} {a : Act} {w : World} (hi : ops[i]? = some oi) (hS : S w)
  (h : wpAnyH P md ops Q S fuel (listed.setIfInBounds i true) (a.put oi.dst v) w) (hy : YieldsIf P ops S oi v a := by exact Or.inl ⟨by kernel_rfl, fun w hSw => by first | kernel_rfl | (go_simp;done)⟩) (hs : Region.noSelect ops = true := by kernel_rfl) (hf : Region.free md ops listed i = true := by kernel_rfl) (hr : (Region.ready md ops listed).contains i = true := by kernel_rfl)
  (hQ : ∀ c a w, Q (.panic c) (a.put oi.dst v) w → Q (.panic c) a w := by exact fun _ _ _ h => h) : wpAnyH P md ops Q S (fuel + 1) listed a w := wpAnyH_take hi hs hf hr hQ hy hS h

abbrev qo (d : Option Tmp) (o : Op) (t : TypeId) (p : String) (f : Array Edge) (g : Option (Nat × Bool)) (l : List Oper) : List Oper := { dst := d, op := o, type := t, pos := p, after := f, guard := g } :: l
theorem rd1 {P : Program} {md : Region.Mode} {ops : Array Oper} {Q : Exit → Act → World → Prop} {S : World → Prop} {fuel : Nat} {listed : Array Bool} {a : Act} {w : World} (i : Nat) {oi : Oper} (hi : ops[i]? = some oi)
  (h : ∀ K : Act → World → Prop, Shut (∀ a w, S w → (S w → wpAnyH P md ops Q S fuel (listed.setIfInBounds i true) a w) → K a w) → Oper.wp P oi a w K Q) (hr : Region.ready md ops listed = [i] := by kernel_rfl) (hw : Region.wanted oi (yielded ops a.tmps) = true := by kernel_rfl) : wpAnyH P md ops Q S (fuel + 1) listed a w :=
 wpAnyH_ready hr (by simp) (AllReadyH.cons hi (fun K hK => by rw [if_pos hw];exact h K hK) AllReadyH.nil)

abbrev wkq {P : Program} {ops : Array Oper} {Q : Exit → Act → World → Prop} {d : Option Tmp} {t : TypeId} {p : String} {f : Array Edge} {g : Option (Nat × Bool)} {l : List Oper} {a : Act} (o : Op) (w : World) : Prop := wpList P ops Q ({ dst := d, op := o, type := t, pos := p, after := f, guard := g } :: l) a w
theorem kq0 {w w1 : World} (f : Fr0 w w1) {g : Nat} {o : Obj} (h : Jq7 (w.heap[g]? = some o)) : Jq7 (w1.heap[g]? = some o) := jq7 (f.keep h.o fun h => h)
theorem kqg {S : Nat → Prop} {w w1 : World} (f : Fr S w w1) {g : Nat} {o : Obj} (h : Jq7 (w.heap[g]? = some o)) (hs : ¬ S g := by have z := HOO.o;omega) : Jq7 (w1.heap[g]? = some o) := jq7 (f.keep h.o hs)
theorem fq0 {S : Nat → Prop} {w w1 w2 : World} (h : Jq7 (Fr S w w1)) (k : Fr0 w1 w2) : Jq7 (Fr S w w2) := jq7 (Fr.then0 h.o k)
theorem fqg {S S' : Nat → Prop} {w w1 w2 : World} (h : Jq7 (Fr S w w1)) (k : Fr S' w1 w2) (hs : ∀ i, i < w.heap.size → S' i → S i := by intro i hi e;have z := HOO.o;omega) : Jq7 (Fr S w w2) := jq7 (h.o.then k hs)
theorem zq0 {n : Nat} {w w1 : World} {S : Nat → Prop} (h : Jq7 (n ≤ w.heap.size)) (f : Fr S w w1) : Jq7 (n ≤ w1.heap.size) := jq7 (Nat.le_trans (h.o) f.size)
theorem lcq {P : Program} {ops : Array Oper} {rest : List Oper} {o : Oper} {a : Act} {w : World} {Q : Exit → Act → World → Prop} (ty : TypeId) {x : Operand} (g i : Nat) (v : Value) (hc : w.cell? ⟨g, i, none⟩ = some v)
  (h : wpList P ops Q rest (a.put o.dst v) w) (hw : Region.wanted o (yielded ops a.tmps) = true := by rfl) (ho : o.op = .load ty x := by rfl) (hx : a.eval x = .pointer (some ⟨g, i, none⟩) := by rfl)
  (hd : (match P.underlying ty with | some (.struct _) | some (.array _ _) => false | none => false | _ => true) = true := by kernel_rfl) : wpList P ops Q (o :: rest) a w := by
 unfold wpList
 rw [if_pos hw]
 refine Or.inl ?_
 cases hu : P.underlying ty with
 | none => rw [hu] at hd;cases hd
 | some d =>
  have hagg : (isAgg ty).run P w = .ok false w := by
   unfold isAgg
   rw [Sem.run_bind, run_underlying hu w]
   rw [hu] at hd
   cases d <;> simp_all
  have hrun : (execOp a.eval o).run P w = .ok (.value v) w := by
   unfold execOp
   simp only [ho, hx, Instr.loadAt, Instr.sureAddr, Sem.run_bind, Sem.run_pure, Result.andThen_ok]
   simp [loadVar, Sem.run_bind, hagg, run_load, hc]
  unfold Oper.wp
  rw [hrun, Oper.upon_value]
  exact h
theorem lr {P : Program} {ops : Array Oper} {rest : List Oper} {o : Oper} {a : Act} {w : World} {Q : Exit → Act → World → Prop} (ty : TypeId) {x : Operand} (g : Nat) (cs : Array Value) (hg : w.heap[g]? = some (.cells cs ty (0, 0))) (hi : (P.info? ty).map (·.size) = some cs.size)
  (h : wpList P ops Q rest (a.put o.dst (.agg cs)) w) (hw : Region.wanted o (yielded ops a.tmps) = true := by rfl) (ho : o.op = .load ty x := by rfl) (hx : a.eval x = .pointer (some ⟨g, 0, none⟩) := by rfl)
  (hd : (match P.underlying ty with | some (.struct _) | some (.array _ _) => true | _ => false) = true := by kernel_rfl) : wpList P ops Q (o :: rest) a w := by
 cases hu : P.underlying ty with
 | none => rw [hu] at hd;cases hd
 | some d =>
  unfold wpList
  rw [if_pos hw]
  refine Or.inl (wp_load_row ty x ho g hx ty cs (0, 0) d hg hu ?_ hi h)
  rw [hu] at hd
  cases d <;> first | rfl | cases hd

end Go.Proofs.YtmkmpfnadcmcoaaGreatDoor.HeldKit
namespace Go.Proofs.YtmkmpfnadcmcoaaGreatDoor.GKit
open Go Go.RowKit K ArrKit HeldKit
theorem wpList_load_row_g {P : Program} {ops : Array Oper} {rest : List Oper} {o : Oper} {a : Act} {w : World} {Q : Exit → Act → World → Prop} (hw : Region.wanted o (yielded ops a.tmps) = true) (ty : TypeId) (x : Operand) (ho : o.op = .load ty x)
  (g : Nat) (hx : a.eval x = .pointer (some ⟨g, 0, none⟩)) (t : TypeId) (cs : Array Value) (fr : Nat × Nat) (d : TypeDesc) (hg : w.heap[g]? = some (.cells cs t fr))
  (hu : P.underlying ty = some d) (hd : (match d with | .struct _ | .array _ _ => true | _ => false) = true) (hi : (P.info? ty).map (·.size) = some cs.size)
  (h : wpList P ops Q rest (a.put o.dst (.agg cs)) w) : wpList P ops Q (o :: rest) a w := by
 unfold wpList
 rw [if_pos hw]
 exact Or.inl (wp_load_row ty x ho g hx t cs fr d hg hu hd hi h)
theorem sets_bk {g : Nat} {t : TypeId} : ∀ (vs : List Value) (o : Nat) (w : World) (cs : Array Value), Bk w g cs t → Bk (w.setCells g o vs) g (lay cs o vs) t
 | [], _, _, _, h => h
 | v :: r, o, w, cs, h => sets_bk r (o + 1) _ _ (h.set o v)
theorem sets_fr {g : Nat} {w0 : World} : ∀ (vs : List Value) (o : Nat) (w : World), Fr (· = g) w0 w → Fr (· = g) w0 (w.setCells g o vs)
 | [], _, _, h => h
 | v :: r, o, w, h => sets_fr r (o + 1) _ (h.set _ _ (.inr rfl))
theorem Fr.both {S S' : Nat → Prop} {w w1 w2 : World} (h : Fr S w w1) (k : Fr S' w1 w2) : Fr (fun i => S i ∨ S' i) w w2 :=
 ⟨k.os.trans h.os, k.tape.trans h.tape, k.output.trans h.output, Nat.le_trans h.size k.size, fun i hi hn => (k.block i (Nat.lt_of_lt_of_le hi h.size) (fun e => hn (.inr e))).trans (h.block i hi (fun e => hn (.inl e)))⟩
theorem Fr.new {S S' : Nat → Prop} {w w1 w2 : World} (h : Fr S w w1) (k : Fr S' w1 w2) (hs : ∀ i, S' i → S i ∨ w.heap.size ≤ i) : Fr S w w2 :=
 h.then k (fun i hi e => (hs i e).elim id (fun e => by omega))
theorem Fr.set1 (w : World) (p o : Nat) (v : Value) : Fr (fun i => i = p) w (w.setCell ⟨p, o, none⟩ v) := Fr.set (Fr.refl _ _) _ _ (.inr rfl)
theorem Fr.row1 (w : World) (p : Nat) (cs : Array Value) : Fr (fun i => i = p) w (w.setRow p cs) := ArrKit.Fr.row (Fr.refl _ _) _ _ (.inr rfl)
def Stand (os : List (Nat × Obj)) (w : World) : Prop := ∀ r ∈ os, w.heap[r.1]? = some r.2
theorem Stand.nil (w : World) : Stand [] w := fun r h => by cases h
theorem Stand.cons {w : World} {g : Nat} {o : Obj} {os : List (Nat × Obj)} (h0 : w.heap[g]? = some o) (h : Stand os w) : Stand ((g, o) :: os) w := fun r hr => by
 rcases List.mem_cons.1 hr with rfl | hr
 ·exact h0
 ·exact h r hr
theorem Stand.drew {w : World} {os : List (Nat × Obj)} (h : Stand os w) : Stand os w.drew := h
theorem Stand.a0 {w : World} {r : Nat × Obj} {os : List (Nat × Obj)} (h : Stand (r :: os) w) : w.heap[r.1]? = some r.2 := h _ (List.mem_cons_self ..)
theorem Stand.tl {w : World} {r : Nat × Obj} {os : List (Nat × Obj)} (h : Stand (r :: os) w) : Stand os w := fun r hr => h r (List.mem_cons_of_mem _ hr)
theorem Stand.fr {S : Nat → Prop} {w w' : World} {os : List (Nat × Obj)} (h : Stand os w) (f : Fr S w w') (hs : ∀ r ∈ os, ¬ S r.1) : Stand os w' := fun r hr => f.keep (h r hr) (hs r hr)
theorem Fr.sets1 (w : World) (p o : Nat) (vs : List Value) : Fr (fun i => i = p) w (w.setCells p o vs) := sets_fr vs o w (Fr.refl _ _)
theorem there_bk {w : World} {g : Nat} {cs : Array Value} {t : TypeId} (h : Bk w g cs t) (o n : Nat) (hs : o + n ≤ cs.size) : w.there g o n := fun j hj => ⟨by rw [h.cell, Array.getElem?_eq_getElem (by omega)];rfl, h.free _⟩
theorem build_eq {P : Program} {ops : Array Oper} {rest : List Oper} {o : Oper} {a : Act} {w : World} {Q : Exit → Act → World → Prop} (hg : o.guard = none) (t : TypeId) (parts : Array (Nat × Operand)) (ho : o.op = .build t parts) (cs : Array Value)
  (hf : P.built t (parts.map fun (i, x) => (i, a.eval x)).toList = some cs) (h : wpList P ops Q rest (a.put o.dst (.agg cs)) w) : wpList P ops Q (o :: rest) a w :=
 wpList_build hg t parts ho (by rw [hf];rfl) (by rw [hf];exact h)
theorem build_ev {P : Program} {ops : Array Oper} {rest : List Oper} {o : Oper} {a : Act} {w : World} {Q : Exit → Act → World → Prop} (hg : o.guard = none) (t : TypeId) (parts : Array (Nat × Operand)) (ho : o.op = .build t parts) (L : List (Nat × Value))
  (hp : (parts.map fun (i, x) => (i, a.eval x)).toList = L) (cs : Array Value) (hf : P.built t L = some cs) (h : wpList P ops Q rest (a.put o.dst (.agg cs)) w) : wpList P ops Q (o :: rest) a w :=
 build_eq hg t parts ho cs (by rw [hp];exact hf) h

end Go.Proofs.YtmkmpfnadcmcoaaGreatDoor.GKit
namespace Go.Proofs.YtmkmpfnadcmcoaaGreatDoor.GRow
open Go Go.RowKit K ArrKit HeldKit GKit
def RdG {α : Type} (f : α → List Value) (k : Nat) (w : World) (A : Option Addr) (l : List α) : Prop := ∀ i (h : i < l.length), ∃ b o, A = some ⟨b, o, none⟩ ∧ w.rangeAt b (o + i * k) (f l[i])
section
variable {α : Type} {f : α → List Value} {k : Nat}
theorem RdG.later {S : Nat → Prop} {w w1 : World} {A : Option Addr} {l : List α} (h : RdG f k w A l) (fr : Fr S w w1) (hs : ∀ a, A = some a → l ≠ [] → ¬ S a.block) : RdG f k w1 A l := fun i hi => by
 obtain ⟨b, o, e, hr⟩ := h i hi
 refine ⟨b, o, e, fun j v hj => ?_⟩
 have hc := hr j v hj
 have hb := World.block_lt_of_cell? w _ hc
 rw [fr.cell b (o + i * k + j) hb (hs _ e (by intro e;subst e;simp at hi))]
 exact hc
theorem RdG.keep {w w1 : World} {A : Option Addr} {l : List α} (h : RdG f k w A l) (fr : Fr0 w w1) : RdG f k w1 A l := h.later fr (fun _ _ _ h => h)
theorem RdG.nil (w : World) (A : Option Addr) : RdG f k w A [] := fun i h => by simp at h
theorem RdG.form {w : World} {A : Option Addr} {l : List α} (h : RdG f k w A l) (hl : 0 < l.length) (hf : ∀ x, 0 < (f x).length) : ∃ b o, A = some ⟨b, o, none⟩ ∧ b < w.heap.size ∧ ∀ i (h : i < l.length), w.rangeAt b (o + i * k) (f l[i]) := by
 obtain ⟨b, o, rfl, hr⟩ := h 0 hl
 refine ⟨b, o, rfl, World.block_lt_of_cell? w _ (hr 0 _ (List.getElem?_eq_getElem (hf _))), fun i hi => ?_⟩
 obtain ⟨b', o', e, hr'⟩ := h i hi
 simp only [Option.some.injEq, Addr.mk.injEq, and_true] at e
 obtain ⟨rfl, rfl⟩ := e
 exact hr'
theorem RdG.at {w : World} {b o : Nat} {l : List α} (h : RdG f k w (some ⟨b, o, none⟩) l) {i : Nat} (hi : i < l.length) : w.rangeAt b (o + i * k) (f l[i]) := by
 obtain ⟨b', o', e, hr⟩ := h i hi
 simp only [Option.some.injEq, Addr.mk.injEq, and_true] at e
 obtain ⟨rfl, rfl⟩ := e
 exact hr
theorem RdG.of {w : World} {b o : Nat} {l : List α} (h : ∀ i (h : i < l.length), w.rangeAt b (o + i * k) (f l[i])) : RdG f k w (some ⟨b, o, none⟩) l := fun i hi => ⟨b, o, rfl, h i hi⟩
theorem RdG.past {S : Nat → Prop} {w0 w w1 : World} {A : Option Addr} {l : List α} (h0 : RdG f k w0 A l) (h : RdG f k w A l) (hf : ∀ x, 0 < (f x).length) (fr : Fr S w w1) (hs : ∀ b, b < w0.heap.size → ¬ S b) : RdG f k w1 A l := h.later fr (fun a e hl => by
 subst e
 obtain ⟨b, o, e, hb, -⟩ := h0.form (List.length_pos_iff.2 hl) hf
 obtain rfl := Option.some.inj e
 exact hs _ hb)
def flat (f : α → List Value) (l : List α) : List Value := (l.map f).flatten
theorem flat_nil : flat f [] = [] := rfl
theorem flat_cons (x : α) (l : List α) : flat f (x :: l) = f x ++ flat f l := rfl
theorem flat_append (l m : List α) : flat f (l ++ m) = flat f l ++ flat f m := by simp [flat]
theorem flat_length {l : List α} (h : ∀ x ∈ l, (f x).length = k) : (flat f l).length = l.length * k := by
 induction l with
 | nil => simp [flat_nil]
 | cons x r ih => rw [flat_cons, List.length_append, h x (List.mem_cons_self ..), ih (fun y hy => h y (List.mem_cons_of_mem _ hy)), List.length_cons, Nat.add_mul];omega
theorem flat_get {l : List α} (h : ∀ x ∈ l, (f x).length = k) : ∀ i (hi : i < l.length) j, j < k → (flat f l)[i * k + j]? = (f l[i])[j]? := by
 induction l with
 | nil => intro i hi;simp at hi
 | cons x r ih =>
  intro i hi j hj
  have hx := h x (List.mem_cons_self ..)
  cases i with
  | zero => rw [flat_cons, Nat.zero_mul, Nat.zero_add, List.getElem?_append_left (by omega)];rfl
  | succ i =>
   rw [flat_cons, List.getElem?_append_right (by rw [hx, Nat.add_mul];omega), hx, show (i + 1) * k + j - k = i * k + j by rw [Nat.add_mul];omega]
   exact ih (fun y hy => h y (List.mem_cons_of_mem _ hy)) i (by simpa using hi) j hj
theorem flat_in {l : List α} (h : ∀ x ∈ l, (f x).length = k) (hk : 0 < k) {j : Nat} {u : Value} (hj : (flat f l)[j]? = some u) : ∃ (i : Nat) (hi : i < l.length), (f l[i])[j % k]? = some u ∧ j = i * k + j % k := by
 have hl := (List.getElem?_eq_some_iff.1 hj).1
 rw [flat_length h] at hl
 have hi : j / k < l.length := (Nat.div_lt_iff_lt_mul hk).2 hl
 have e : j = j / k * k + j % k := by rw [Nat.mul_comm];exact (Nat.div_add_mod j k).symm
 refine ⟨j / k, hi, ?_, e⟩
 rw [← flat_get h _ hi _ (Nat.mod_lt _ hk), ← e]
 exact hj
theorem RdG.cells {w : World} {b o : Nat} {l : List α} (hr : RdG f k w (some ⟨b, o, none⟩) l) (h : ∀ x ∈ l, (f x).length = k) (hk : 0 < k) : ∀ (j : Nat) (u : Value), (flat f l)[j]? = some u → w.cell? ((⟨b, o, none⟩ : Addr).add j) = some u := fun j u hj => by
 obtain ⟨i, hi, hu, e⟩ := flat_in h hk hj
 rw [add_form]
 have := hr.at hi _ _ hu
 rwa [Nat.add_assoc, ← e] at this
theorem flat_one {l : List α} (h : ∀ x ∈ l, ∀ v ∈ f x, v.oneCell' = true) : ∀ v ∈ flat f l, v.oneCell' = true := fun v hv => by
 obtain ⟨c, hc, hv⟩ := List.mem_flatten.1 hv
 obtain ⟨x, hx, rfl⟩ := List.mem_map.1 hc
 exact h x hx v hv
structure OwnG (f : α → List Value) (k : Nat) (e : TypeId) (w : World) (g cap : Nat) (cur : Array Value) (l : List α) : Prop where
 blk : Bk w g cur e
 room : l.length ≤ cap
 max : cap ≤ 9223372036854775807
 size : cur.size = cap * k
 here : ∀ i (h : i < l.length), ∀ (j : Nat) (u : Value), (f l[i])[j]? = some u → cur[i * k + j]? = some u
variable {e : TypeId}
theorem OwnG.rd {w : World} {g cap : Nat} {cur : Array Value} {l : List α} (h : OwnG f k e w g cap cur l) : RdG f k w (some ⟨g, 0, none⟩) l := RdG.of fun i hi j u hj => by
 rw [Nat.zero_add, Bk.cell h.blk]
 exact h.here i hi j u hj
theorem OwnG.keep {S : Nat → Prop} {w w1 : World} {g cap : Nat} {cur : Array Value} {l : List α} (h : OwnG f k e w g cap cur l) (fr : Fr S w w1) (hs : ¬ S g) : OwnG f k e w1 g cap cur l := ⟨fr.keep h.blk hs, h.room, h.max, h.size, h.here⟩
theorem OwnG.set {w : World} {g cap : Nat} {cur : Array Value} {l : List α} (h : OwnG f k e w g cap cur l) (hl : ∀ x ∈ l, (f x).length = k) {i : Nat} (hi : i < l.length) (x : α) (hx : (f x).length = k) (w' : World) (cur' : Array Value) (hb : Bk w' g cur' e) (hsz : cur'.size = cur.size)
  (hin : ∀ (j : Nat) (u : Value), (f x)[j]? = some u → cur'[i * k + j]? = some u) (hout : ∀ m, (m < i * k ∨ i * k + k ≤ m) → cur'[m]? = cur[m]?) : OwnG f k e w' g cap cur' (l.set i x) :=
 ⟨hb, by rw [List.length_set];exact h.room, h.max, hsz.trans h.size, fun m hm j u hj => by
  rw [List.length_set] at hm
  rw [List.getElem_set] at hj
  by_cases e : i = m
  ·subst e
   rw [if_pos rfl] at hj
   exact hin j u hj
  ·rw [if_neg e] at hj
   have hjk : j < k := by
    have := (List.getElem?_eq_some_iff.1 hj).1
    rwa [hl _ (List.getElem_mem hm)] at this
   have h1 : m * k + j < i * k ∨ i * k + k ≤ m * k + j := by
    rcases Nat.lt_or_gt_of_ne e with h2 | h2
    ·right
     have : (i + 1) * k ≤ m * k := Nat.mul_le_mul_right k h2
     rw [Nat.add_mul] at this;omega
    ·left
     have : (m + 1) * k ≤ i * k := Nat.mul_le_mul_right k h2
     rw [Nat.add_mul] at this;omega
   rw [hout _ h1]
   exact h.here m hm j u hj⟩
theorem Fr.newG {S : Nat → Prop} {w w1 w2 : World} {g : Nat} (h : Fr S w w1) (k : Fr (fun i => i = g) w1 w2) (hg : w.heap.size ≤ g) : Fr S w w2 := h.then k (fun i hi e => by omega)

variable {P : Program}
theorem own_of {w : World} {base n : Nat} {v : Value} {l : List α} (hf : ∀ x ∈ l, (f x).length = k) (hk : 0 < k) (h : w.ownsRow base e k v n (flat f l)) (hn : l.length = n) (h0 : 0 < n) : ∃ g cap cur, v = .slice (some ⟨g, 0, none⟩) n cap ∧ base ≤ g ∧ OwnG f k e w g cap cur l := by
 rcases h.2 with ⟨rfl, h2⟩ | ⟨g, cap, cur, rfl, hb, hg, hnc, hcm, hcs, htake⟩
 ·omega
 ·refine ⟨g, cap, cur, rfl, hb, hg, by omega, hcm, hcs, fun i hi j u hj => ?_⟩
  have hjk : j < k := by
   have := (List.getElem?_eq_some_iff.1 hj).1
   rwa [hf _ (List.getElem_mem hi)] at this
  have h1 : (flat f l)[i * k + j]? = some u := by rw [flat_get hf i hi j hjk];exact hj
  rw [← htake, List.getElem?_take] at h1
  split at h1
  ·simpa using h1
  ·cases h1
theorem own_row {w : World} {base g cap : Nat} {cur : Array Value} {l : List α} (hf : ∀ x ∈ l, (f x).length = k) (h : OwnG f k e w g cap cur l) (hb : base ≤ g) : w.ownsRow base e k (.slice (some ⟨g, 0, none⟩) l.length cap) l.length (flat f l) :=
 ⟨flat_length hf, .inr ⟨g, cap, cur, rfl, hb, h.blk, h.room, h.max, h.size, by
  apply List.ext_getElem?
  intro j
  rw [List.getElem?_take]
  by_cases hj : j < l.length * k
  ·have hjl : j < (flat f l).length := by rw [flat_length hf];exact hj
   have hk : 0 < k := by
    rcases Nat.eq_zero_or_pos k with rfl | h
    ·simp at hj
    ·exact h
   obtain ⟨i, hi, hu, e⟩ := flat_in hf hk (List.getElem?_eq_getElem hjl)
   have hc := h.here i hi _ _ hu
   rw [← e] at hc
   rw [if_pos hj, Array.getElem?_toList, hc, List.getElem?_eq_getElem hjl]
  ·rw [if_neg hj, List.getElem?_eq_none (by rw [flat_length hf];omega)]⟩⟩
theorem run_append_all (w : World) (t ty : TypeId) (i : TypeInfo) (z : Value) (bytes : Nat) (ht : P.underlying t = some (.slice e)) (hi : P.info? e = some i) (hz : i.zero = some z)
  (hsize : i.size = k) (hby : i.bytes = bytes) (hzs : z.cells.size = k) (hk : 0 < k) (g0 : Nat) (hg0 : Bk w g0 #[] e) (A : Option Addr) (n c : Nat) (l : List α) (hn : l.length = n) (hrd : RdG f k w A l) (hf : ∀ x ∈ l, (f x).length = k) (h1 : ∀ x ∈ l, ∀ v ∈ f x, v.oneCell' = true)
  (h63 : n ≤ 9223372036854775807) (hbytes : n * bytes ≤ 140737488355328) :
  ∃ g cap cur w', (Builtin.append_ #[t, t] ty #[.slice (some ⟨g0, 0, none⟩) 0 0, .slice A n c]).run P w = .ok (.slice (some ⟨g, 0, none⟩) n cap) w' ∧ g0 ≤ g ∧ OwnG f k e w' g cap cur l ∧ Fr (fun i => i = g0) w w' := by
 by_cases h0 : n = 0
 ·subst h0
  have : l = [] := List.eq_nil_of_length_eq_zero hn
  subst this
  refine ⟨g0, 0, #[], w, ?_, Nat.le_refl _, ⟨hg0, Nat.le_refl _, by omega, by simp, fun i hi => by simp at hi⟩, Fr.refl _ _⟩
  cases A <;> simp [Builtin.append_, run_underlying ht, sizeOf, typeInfo, hi, Builtin.lenOf, Builtin.firstCells, loadCells, loadCellsFrom, storeCells]
 ·have h0' : 0 < l.length := by omega
  obtain ⟨b, o, rfl, -⟩ := hrd 0 h0'
  obtain ⟨v', w', hr, hown, hgr, -⟩ := run_append_own (P := P) w g0 t ty e i z k bytes ht hi hz hsize hby hzs hk (.slice (some ⟨g0, 0, none⟩) 0 0) 0 [] ⟨by simp, .inr ⟨g0, 0, #[], rfl, Nat.le_refl _, hg0, Nat.le_refl _, by unfold maxLen;omega, by simp, by simp⟩⟩
   ⟨b, o, none⟩ n c (flat f l) (by rw [flat_length hf, hn]) (hrd.cells hf hk) (flat_one h1) (by unfold maxLen;omega) (by rw [Nat.zero_add];exact hbytes) (Nat.le_of_lt (Bk.lt hg0))
  rw [Nat.zero_add, List.nil_append] at hown
  obtain ⟨g, cap, cur, rfl, hb, ho⟩ := own_of hf hk hown hn (by omega)
  exact ⟨g, cap, cur, w', hr, hb, ho, hgr.os, hgr.tape, hgr.output, hgr.size, fun i hi hs => hgr.block i hi (by simp only [Value.ownBlock];intro e;cases e;exact hs rfl)⟩
theorem wp_append_all {o : Oper} {a : Act} {w : World} {K : Act → World → Prop} {Q : Exit → Act → World → Prop} (s x : Operand) (t : TypeId)
  (ho : o.op = .call { callee := .builtin .append, args := #[s, x], argTypes := #[t, t] }) (i : TypeInfo) (z : Value) (bytes : Nat) (ht : P.underlying t = some (.slice e)) (hi : P.info? e = some i) (hz : i.zero = some z)
  (hsize : i.size = k) (hby : i.bytes = bytes) (hzs : z.cells.size = k) (hk : 0 < k) (g0 : Nat) (hg0 : Bk w g0 #[] e) (hs : a.eval s = .slice (some ⟨g0, 0, none⟩) 0 0) (A : Option Addr) (n c : Nat) (hx : a.eval x = .slice A n c) (l : List α) (hn : l.length = n) (hrd : RdG f k w A l) (hf : ∀ x ∈ l, (f x).length = k) (h1 : ∀ x ∈ l, ∀ v ∈ f x, v.oneCell' = true)
  (h63 : n ≤ 9223372036854775807) (hbytes : n * bytes ≤ 140737488355328)
  (h : ∀ g cap cur w', g0 ≤ g → OwnG f k e w' g cap cur l → Fr (fun i => i = g0) w w' → K (a.put o.dst (.slice (some ⟨g, 0, none⟩) n cap)) w') : o.wp P a w K Q := by
 obtain ⟨g, cap, cur, w', hr, h2, h3, h4⟩ := run_append_all (P := P) w t o.type i z bytes ht hi hz hsize hby hzs hk g0 hg0 A n c l hn hrd hf h1 h63 hbytes
 unfold Oper.wp execOp
 simp only [ho, resolve, invoke, builtin, Sem.run_bind, Sem.run_pure, Result.andThen_ok, List.map_toArray, List.map_cons, List.map_nil, hs, hx, hr]
 exact h g cap cur w' h2 h3 h4
theorem wpList_append_all {ops : Array Oper} {rest : List Oper} {o : Oper} {a : Act} {w : World} {Q : Exit → Act → World → Prop} (hgd : o.guard = none) (s x : Operand) (t : TypeId)
  (ho : o.op = .call { callee := .builtin .append, args := #[s, x], argTypes := #[t, t] }) (i : TypeInfo) (z : Value) (bytes : Nat) (ht : P.underlying t = some (.slice e)) (hi : P.info? e = some i) (hz : i.zero = some z)
  (hsize : i.size = k) (hby : i.bytes = bytes) (hzs : z.cells.size = k) (hk : 0 < k) (g0 : Nat) (hg0 : Bk w g0 #[] e) (hs : a.eval s = .slice (some ⟨g0, 0, none⟩) 0 0) (A : Option Addr) (n c : Nat) (hx : a.eval x = .slice A n c) (l : List α) (hn : l.length = n) (hrd : RdG f k w A l) (hf : ∀ x ∈ l, (f x).length = k) (h1 : ∀ x ∈ l, ∀ v ∈ f x, v.oneCell' = true)
  (h63 : n ≤ 9223372036854775807) (hbytes : n * bytes ≤ 140737488355328)
  (h : ∀ g cap cur w', g0 ≤ g → OwnG f k e w' g cap cur l → Fr (fun i => i = g0) w w' → wpList P ops Q rest (a.put o.dst (.slice (some ⟨g, 0, none⟩) n cap)) w') : wpList P ops Q (o :: rest) a w :=
 wpList_plain hgd fun _ hK => wp_append_all s x t ho i z bytes ht hi hz hsize hby hzs hk g0 hg0 hs A n c hx l hn hrd hf h1 h63 hbytes fun g cap cur w' h2 h3 h4 => hK _ _ (h g cap cur w' h2 h3 h4)
end
end Go.Proofs.YtmkmpfnadcmcoaaGreatDoor.GRow
