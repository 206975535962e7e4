/- The theorems that the claim uses, text behind text (part 1). -/
import Derived.Below
import Derived.Laws.Rows
import Derived.Deep.MidRow
import Derived.Deep.Draws
import Derived.Laws.Slices
import Derived.WalkKit
import Derived.Lib.Hide
import Derived.RowKit
import Derived.Laws.BitsLemmas
import Derived.Outline
import Derived.LoopTactic
import Derived.Laws.Tables
import Derived.StillTailTactics
import Derived.BigQuiet
import Derived.Deep.QuietTactic
import Derived.DeepKeys
import Derived.Laws.StructEq
import Derived.Deep.RegionHeld3
set_option linter.unusedVariables false
set_option linter.unusedSimpArgs false
namespace Go.Proofs.YtlleandelcjhjaaDoor.K
open Go Go.RowKit
variable {P : Program}
theorem sc_other (w : World) (a : Addr) (k : Nat) (v : Value) (h : k ≠ a.block) : (w.setCell a v).heap[k]? = w.heap[k]? := by
  simp only [World.setCell, Array.getElem?_modify]
  rw [if_neg (fun e => h e.symm)]

theorem al_old (w : World) (o : Obj) (i : Nat) (h : i < w.heap.size) : (w.alloc o).heap[i]? = w.heap[i]? := by
  show (w.heap.push o)[i]? = w.heap[i]?
  rw [Array.getElem?_push, if_neg (Nat.ne_of_lt h)]

/-- block g is a row of the cells cs, none of them frozen -/
abbrev Bk (w : World) (g : Nat) (cs : Array Value) (t : TypeId) : Prop := w.heap[g]? = some (.cells cs t (0, 0))
theorem Bk.lt {w : World} {g : Nat} {o : Obj} (h : w.heap[g]? = some o) : g < w.heap.size := by
  by_cases hlt : g < w.heap.size
  · exact hlt
  · rw [Array.getElem?_eq_none (by omega)] at h; cases h
theorem Bk.cell {w : World} {g : Nat} {t : TypeId} {cs : Array Value} (h : Bk w g cs t) (i : Nat) : w.cell? ⟨g, i, none⟩ = cs[i]? := cell_of_row w g i cs t (0, 0) h
theorem Bk.free {w : World} {g : Nat} {t : TypeId} {cs : Array Value} (h : Bk w g cs t) (i : Nat) : w.frozen? ⟨g, i, none⟩ = false := frozen_of_row w g i cs t h
theorem Bk.set {w : World} {g : Nat} {t : TypeId} {cs : Array Value} (h : Bk w g cs t) (i : Nat) (v : Value) : Bk (w.setCell ⟨g, i, none⟩ v) g (cs.setIfInBounds i v) t := heap_setCell_same w g i cs t v h
theorem Bk.setOther {w : World} {g : Nat} {o : Obj} (h : w.heap[g]? = some o) (a : Addr) (v : Value) (hne : g ≠ a.block) : (w.setCell a v).heap[g]? = some o := (sc_other w a g v hne).trans h
theorem Bk.new (w : World) (o : Obj) : (w.alloc o).heap[w.heap.size]? = some o := heap_alloc_new w o
theorem Bk.alloc {w : World} {g : Nat} {o : Obj} (h : w.heap[g]? = some o) (o' : Obj) : (w.alloc o').heap[g]? = some o := (al_old w o' g (Bk.lt h)).trans h
theorem Bk.drew {w : World} {g : Nat} {o : Obj} (h : w.heap[g]? = some o) : w.drew.heap[g]? = some o := h
theorem Bk.drewN {w : World} {g : Nat} {o : Obj} (h : w.heap[g]? = some o) (n : Nat) : (w.drewN n).heap[g]? = some o := h

structure Fr (S : Nat → Prop) (w w' : World) : Prop where
  os : w'.os = w.os
  tape : w'.tape = w.tape
  output : w'.output = w.output
  size : w.heap.size ≤ w'.heap.size
  block : ∀ i, i < w.heap.size → ¬ S i → w'.heap[i]? = w.heap[i]?
/-- nothing that was there is changed -/
abbrev Fr0 (w w' : World) : Prop := Fr (fun _ => False) w w'
theorem Fr.refl (S : Nat → Prop) (w : World) : Fr S w w := ⟨rfl, rfl, rfl, Nat.le_refl _, fun _ _ _ => rfl⟩
theorem Fr.trans {S : Nat → Prop} {w w1 w2 : World} (h : Fr S w w1) (k : Fr S w1 w2) : Fr S w w2 :=
  ⟨k.os.trans h.os, k.tape.trans h.tape, k.output.trans h.output, Nat.le_trans h.size k.size, fun i hi hs => (k.block i (Nat.lt_of_lt_of_le hi h.size) hs).trans (h.block i hi hs)⟩
theorem Fr.weaken {S S' : Nat → Prop} {w w1 : World} (h : Fr S w w1) (hs : ∀ i, i < w.heap.size → S i → S' i) : Fr S' w w1 :=
  ⟨h.os, h.tape, h.output, h.size, fun i hi hn => h.block i hi (fun hS => hn (hs i hi hS))⟩
theorem Fr.then {S S' : Nat → Prop} {w w1 w2 : World} (h : Fr S w w1) (k : Fr S' w1 w2) (hs : ∀ i, i < w.heap.size → S' i → S i) : Fr S w w2 :=
  ⟨k.os.trans h.os, k.tape.trans h.tape, k.output.trans h.output, Nat.le_trans h.size k.size, fun i hi hn => (k.block i (Nat.lt_of_lt_of_le hi h.size) (fun hS => hn (hs i hi hS))).trans (h.block i hi hn)⟩
theorem Fr.then0 {S : Nat → Prop} {w w1 w2 : World} (h : Fr S w w1) (k : Fr0 w1 w2) : Fr S w w2 := h.then k (fun _ _ h => h.elim)
theorem Fr.alloc {S : Nat → Prop} {w w1 : World} (h : Fr S w w1) (o : Obj) : Fr S w (w1.alloc o) :=
  h.then0 ⟨rfl, rfl, rfl, by simp, fun i hi _ => al_old w1 o i hi⟩
theorem Fr.drew {S : Nat → Prop} {w w1 : World} (h : Fr S w w1) : Fr S w w1.drew := ⟨h.os, h.tape, h.output, h.size, h.block⟩
theorem Fr.drewN {S : Nat → Prop} {w w1 : World} (h : Fr S w w1) (n : Nat) : Fr S w (w1.drewN n) := ⟨h.os, h.tape, h.output, h.size, h.block⟩
theorem Fr.set {S : Nat → Prop} {w w1 : World} (h : Fr S w w1) (a : Addr) (v : Value) (ha : w.heap.size ≤ a.block ∨ S a.block) : Fr S w (w1.setCell a v) :=
  ⟨h.os, h.tape, h.output, by simpa [World.setCell] using h.size, fun i hi hs => (sc_other w1 a i v (fun e => by
    subst e
    rcases ha with ha | ha
    · omega
    · exact hs ha)).trans (h.block i hi hs)⟩
theorem Fr0.below {w w' : World} (h : Fr0 w w') : Below w.heap.size w w' := ⟨h.os, h.tape, h.output, h.size, fun i hi => h.block i hi (fun h => h)⟩
theorem Fr0.of_below {w w' : World} (h : Below w.heap.size w w') : Fr0 w w' := ⟨h.os, h.tape, h.output, h.size, fun i hi _ => h.block i hi⟩
theorem Fr.keep {S : Nat → Prop} {w w1 : World} (h : Fr S w w1) {g : Nat} {o : Obj} (hg : w.heap[g]? = some o) (hs : ¬ S g) : w1.heap[g]? = some o := (h.block g (Bk.lt hg) hs).trans hg
theorem Fr.cell {S : Nat → Prop} {w w1 : World} (h : Fr S w w1) (b o : Nat) (hb : b < w.heap.size) (hs : ¬ S b) : w1.cell? ⟨b, o, none⟩ = w.cell? ⟨b, o, none⟩ := by
  simp only [World.cell?, h.block b hb hs]
theorem Fr.froz {S : Nat → Prop} {w w1 : World} (h : Fr S w w1) (b o : Nat) (hb : b < w.heap.size) (hs : ¬ S b) : w1.frozen? ⟨b, o, none⟩ = w.frozen? ⟨b, o, none⟩ := by
  simp only [World.frozen?, h.block b hb hs]
theorem Fr.lt {S : Nat → Prop} {w w1 : World} (h : Fr S w w1) {g : Nat} (hg : g < w.heap.size) : g < w1.heap.size := Nat.lt_of_lt_of_le hg h.size

/-- a byte as a value -/
def B (v : UInt8) : Value := .int .u8 (v.toNat : Int)
theorem B_def (v : UInt8) : B v = .int .u8 (v.toNat : Int) := rfl
theorem B_ofNat (n : Nat) : B (UInt8.ofNat n) = .int .u8 ((n % 256 : Nat) : Int) := by simp [B, UInt8.toNat_ofNat']
/-- from the place A on the bytes l can be read -/
def Rd (w : World) (A : Option Addr) (l : List UInt8) : Prop := ∀ i (h : i < l.length), ∃ a, A = some a ∧ w.cell? (a.add i) = some (B l[i])
theorem add_form (b o i : Nat) : (⟨b, o, none⟩ : Addr).add i = ⟨b, o + i, none⟩ := Addr.add_mid b o i
/-- a place of at least one byte, written out -/
theorem Rd.form {w : World} {A : Option Addr} {l : List UInt8} (h : Rd w A l) (hl : 0 < l.length) : ∃ b o, A = some ⟨b, o, none⟩ ∧ b < w.heap.size ∧ ∀ i (h : i < l.length), w.cell? ⟨b, o + i, none⟩ = some (B l[i]) := by
  obtain ⟨a, rfl, hc⟩ := h 0 hl
  obtain ⟨b, o, sp⟩ := a
  have hsp : sp = none := by
    cases sp with
    | none => rfl
    | some s =>
      simp only [Addr.add, if_true, World.cell?] at hc
      split at hc <;> simp at hc
  subst hsp
  have hb : b < w.heap.size := by
    have := World.block_lt_of_cell? w _ hc
    rwa [add_form] at this
  refine ⟨b, o, rfl, hb, fun i hi => ?_⟩
  obtain ⟨a', e, hc'⟩ := h i hi
  obtain rfl := Option.some.inj e
  rwa [add_form] at hc'
theorem Rd.of {w : World} {b o : Nat} {l : List UInt8} (h : ∀ i (h : i < l.length), w.cell? ⟨b, o + i, none⟩ = some (B l[i])) : Rd w (some ⟨b, o, none⟩) l :=
  fun i hi => ⟨_, rfl, by rw [add_form]; exact h i hi⟩
theorem Rd.nil (w : World) (A : Option Addr) : Rd w A [] := fun i h => by simp at h
theorem Rd.later {S : Nat → Prop} {w w1 : World} {A : Option Addr} {l : List UInt8} (h : Rd w A l) (f : Fr S w w1) (hs : ∀ a, A = some a → ¬ S a.block) : Rd w1 A l := by
  by_cases hl : 0 < l.length
  · obtain ⟨b, o, rfl, hb, hc⟩ := h.form hl
    exact Rd.of fun i hi => (f.cell b (o + i) hb (hs _ rfl)).trans (hc i hi)
  · have : l = [] := List.eq_nil_of_length_eq_zero (by omega)
    subst this
    exact Rd.nil _ _
theorem Rd.past {S : Nat → Prop} {w0 w w1 : World} {A : Option Addr} {l : List UInt8} (h0 : Rd w0 A l) (h : Rd w A l) (f : Fr S w w1) (hs : ∀ b, b < w0.heap.size → ¬ S b) : Rd w1 A l := by
  by_cases hl : 0 < l.length
  · obtain ⟨b, o, rfl, hb, -⟩ := h0.form hl
    exact h.later f (fun a e => by obtain rfl := Option.some.inj e; exact hs b hb)
  · have : l = [] := List.eq_nil_of_length_eq_zero (by omega)
    subst this
    exact Rd.nil _ _
theorem Rd.sub {w : World} {b o : Nat} {l : List UInt8} (h : Rd w (some ⟨b, o, none⟩) l) (k n : Nat) : Rd w (some ⟨b, o + k, none⟩) ((l.drop k).take n) := fun i hi => by
  simp only [List.length_take, List.length_drop] at hi
  obtain ⟨a, e, hc⟩ := h (k + i) (by omega)
  obtain rfl := Option.some.inj e
  refine ⟨_, rfl, ?_⟩
  rw [add_form] at hc ⊢
  rw [Nat.add_assoc, hc]
  simp
/-- what a block's cells say -/
theorem Rd.block {w : World} {g : Nat} {cs : Array Value} {t : TypeId} (h : Bk w g cs t) {o : Nat} {l : List UInt8} (hl : ∀ i (h : i < l.length), cs[o + i]? = some (B l[i])) : Rd w (some ⟨g, o, none⟩) l :=
  Rd.of fun i hi => (h.cell (o + i)).trans (hl i hi)

theorem wrap_u64 (n : Int) : IntKind.u64.wrap n = n % 18446744073709551616 := by simp [IntKind.wrap, IntKind.bits, IntKind.signed]
theorem wrap_u32 (n : Int) : IntKind.u32.wrap n = n % 4294967296 := by simp [IntKind.wrap, IntKind.bits, IntKind.signed]
theorem wraps_u64 (n : Int) (h₀ : 0 ≤ n) (h₁ : n < 2 ^ 64) : IntKind.u64.wrap n = n := by rw [wrap_u64]; omega
theorem wraps_u32 (n : Int) (h₀ : 0 ≤ n) (h₁ : n < 2 ^ 32) : IntKind.u32.wrap n = n := by rw [wrap_u32]; omega
theorem or_u64 (a b : Nat) (ha : a < 2 ^ 64) (hb : b < 2 ^ 64) : bits .or .u64 a b = ((a ||| b : Nat) : Int) := (bits_nat .u64 64 (by decide) wraps_u64 a b ha hb).2
theorem or_high (a c k : Nat) (ha : a < 256 ^ k) (hc : c < 256) (hk : k < 8) : bits .or .u64 (a : Int) (IntKind.u64.wrap ((c : Int) * 2 ^ (8 * k))) = ((a + c * 256 ^ k : Nat) : Int) := by
  have hp : (256 : Nat) ^ k = 2 ^ (8 * k) := by rw [Nat.pow_mul]
  have hk8 : (256 : Nat) ^ (k + 1) ≤ 256 ^ 8 := Nat.pow_le_pow_right (by decide) (by omega)
  have hlt : a + c * 256 ^ k < 256 ^ (k + 1) := by
    rw [Nat.pow_succ]
    have : c * 256 ^ k ≤ 255 * 256 ^ k := Nat.mul_le_mul_right _ (by omega)
    omega
  have h64 : (256 : Nat) ^ 8 = 2 ^ 64 := by decide
  have hcl : c * 256 ^ k < 2 ^ 64 := by omega
  have e : ((c : Int) * 2 ^ (8 * k)) = ((c * 256 ^ k : Nat) : Int) := by rw [hp]; simp
  rw [e, wraps_u64 _ (by omega) (by exact_mod_cast hcl), or_u64 a _ (by omega) hcl, Nat.or_comm, hp, Nat.mul_comm, ← Nat.two_pow_add_eq_or_of_lt (hp ▸ ha) c, Nat.add_comm]

/-- the values vs laid into cs from o on -/
def lay (cs : Array Value) (o : Nat) : List Value → Array Value
  | [] => cs
  | v :: r => lay (cs.setIfInBounds o v) (o + 1) r
@[simp] theorem lay_size (vs : List Value) : ∀ (cs : Array Value) (o : Nat), (lay cs o vs).size = cs.size := by
  induction vs with
  | nil => intro cs o; rfl
  | cons v r ih => intro cs o; simp [lay, ih]
theorem lay_get (vs : List Value) : ∀ (cs : Array Value) (o i : Nat), (lay cs o vs)[i]? = if o ≤ i ∧ i < o + vs.length ∧ i < cs.size then vs[i - o]? else cs[i]? := by
  induction vs with
  | nil => intro cs o i; simp only [lay, List.length_nil]; rw [if_neg (by omega)]
  | cons v r ih =>
    intro cs o i
    simp only [lay]
    rw [ih, Array.getElem?_setIfInBounds, Array.size_setIfInBounds, List.length_cons]
    by_cases h1 : o + 1 ≤ i ∧ i < o + 1 + r.length ∧ i < cs.size
    · rw [if_pos h1, if_pos (by omega), show i - o = (i - (o + 1)) + 1 by omega, List.getElem?_cons_succ]
    · rw [if_neg h1]
      by_cases h2 : o = i
      · subst h2
        by_cases h3 : o < cs.size
        · rw [if_pos rfl, if_pos h3, if_pos (by omega)]; simp
        · rw [if_pos rfl, if_neg h3, if_neg (by omega), Array.getElem?_eq_none (by omega)]
      · rw [if_neg h2, if_neg (by omega)]
theorem lay_snoc (vs : List Value) (v : Value) : ∀ (cs : Array Value) (o : Nat), lay cs o (vs ++ [v]) = (lay cs o vs).setIfInBounds (o + vs.length) v := by
  induction vs with
  | nil => intro cs o; rfl
  | cons u r ih => intro cs o; simp only [List.cons_append, lay, ih, List.length_cons]; rw [show o + 1 + r.length = o + (r.length + 1) by omega]
theorem lay_take {cs : Array Value} {o k : Nat} {vs : List Value} (hk : k < vs.length) : lay cs o (vs.take (k + 1)) = (lay cs o (vs.take k)).setIfInBounds (o + k) vs[k] := by
  rw [List.take_succ_eq_append_getElem hk, lay_snoc, List.length_take, Nat.min_eq_left (by omega)]

end Go.Proofs.YtlleandelcjhjaaDoor.K
namespace Go.Proofs.YtlleandelcjhjaaDoor.ArrKit
open Go Go.RowKit Go.Proofs.YtlleandelcjhjaaDoor.K
theorem Bk.row {w : World} {g : Nat} {t : TypeId} {cs : Array Value} (h : Bk w g cs t) (c' : Array Value) : Bk (w.setRow g c') g c' t := setRow_heap w g cs c' t (0, 0) h
theorem Bk.rowOther {w : World} {g k : Nat} {o : Obj} (h : w.heap[k]? = some o) (c' : Array Value) (hne : k ≠ g) : (w.setRow g c').heap[k]? = some o := (setRow_other w g k c' hne).trans h
theorem Fr.row {S : Nat → Prop} {w w1 : World} (h : Fr S w w1) (g : Nat) (c' : Array Value) (hg : w.heap.size ≤ g ∨ S g) : Fr S w (w1.setRow g c') where
  os := h.os
  tape := h.tape
  output := h.output
  size := by rw [size_setRow]; exact h.size
  block := fun i hi hs => by
    rw [setRow_other _ _ _ _ (by rintro rfl; rcases hg with hg | hg; omega; exact hs hg)]
    exact h.block i hi hs
/-- the end of a function whose one result is an array in a block -/
theorem fin_c {P : Program} {fn : Func} {R : Ending → World → Prop} {a : Act} {w : World} {p : Tmp} {ty : TypeId} (g : Nat) (t : TypeId) (cs : Array Value) {d : TypeDesc}
    (h : fn.results = #[.cell p ty]) (hp : a.tmps.getD p undef = .pointer (some ⟨g, 0, none⟩)) (hds : a.defers = [])
    (hu : P.underlying ty = some d) (hd : (match d with | .struct _ | .array _ _ => true | _ => false) = true) (hi : (P.info? ty).map (·.size) = some cs.size)
    (hg : w.heap[g]? = some (.cells cs t (0, 0))) (hR : R (.returned (.agg cs)) w) : bodyPost P fn R .ret a w :=
  bodyPost_ret (results_cell_row h _ _ g t cs (0, 0) d hp hg hu hd hi) hds hR

end Go.Proofs.YtlleandelcjhjaaDoor.ArrKit
namespace Go.Proofs.YtlleandelcjhjaaDoor.EqKit
open Go Go.RowKit Go.Proofs.YtlleandelcjhjaaDoor.K
theorem map_inj {α β : Type} {f : α → β} (hf : ∀ a b, f a = f b → a = b) : ∀ {l m : List α}, l.map f = m.map f → l = m
  | [], [], _ => rfl
  | [], _ :: _, h => by simp at h
  | _ :: _, [], h => by simp at h
  | a :: l, b :: m, h => by
    simp only [List.map_cons, List.cons.injEq] at h
    rw [hf _ _ h.1, map_inj hf h.2]
theorem mapM_some {α β : Type} (f : α → Option β) (g : α → β) : ∀ (l : List α), (∀ x ∈ l, f x = some (g x)) → l.mapM f = some (l.map g)
  | [], _ => rfl
  | x :: r, h => by
    rw [List.mapM_cons, h x (List.mem_cons_self ..), mapM_some f g r (fun y hy => h y (List.mem_cons_of_mem _ hy))]
    rfl
theorem lits_row {P : Program} {t e : TypeId} {n : Nat} {k : IntKind} (d : Nat) (ht : P.underlying t = some (.array n e)) (he : P.underlying e = some (.int k)) (hce : P.cellsOf e = 1) (hct : P.cellsOf t = n)
    (zs : List Int) (hl : zs.length = n) (hw : ∀ z ∈ zs, (Lit.int k z).wf = true) : P.keyLits (d + 2) t (zs.map (.int k ·)) = some (zs.map (Lit.int k ·)) := by
  unfold Program.keyLits
  rw [ht]
  simp only [List.length_map, hl, hct, if_true, hce, Nat.mul_one]
  rw [mapM_some _ (fun i => [Lit.int k (zs.getD i 0)]) _ (fun i hi => by
    have hin : i < zs.length := by rw [hl]; exact List.mem_range.1 hi
    rw [List.drop_eq_getElem_cons (by simpa using hin), List.take_succ_cons, List.take_zero]
    unfold Program.keyLits
    rw [he, List.getElem_map]
    simp [hw _ (List.getElem_mem hin), List.getD, List.getElem?_eq_getElem hin])]
  simp only [Option.map_some, Option.some.injEq]
  apply List.ext_getElem?
  intro i
  rw [show (List.map (fun i => [Lit.int k (zs.getD i 0)]) (List.range n)).flatten = (List.range n).map (fun i => Lit.int k (zs.getD i 0)) by
    induction (List.range n) with
    | nil => rfl
    | cons x r ih => rw [List.map_cons, List.flatten_cons, ih]; rfl]
  rw [List.getElem?_map, List.getElem?_map]
  by_cases hi : i < n
  · rw [List.getElem?_range hi, List.getElem?_eq_getElem (by omega)]
    simp [List.getD, List.getElem?_eq_getElem (show i < zs.length by omega)]
  · rw [List.getElem?_eq_none (by simp; omega), List.getElem?_eq_none (by omega)]
    rfl
/-- two arrays of numbers of one kind -/
theorem eq_row {P : Program} {t e : TypeId} {n : Nat} {k : IntKind} (ht : P.underlying t = some (.array n e)) (he : P.underlying e = some (.int k)) (hce : P.cellsOf e = 1) (hct : P.cellsOf t = n) (hk : P.keyTypeAt 2 t = true)
    (zs ys : List Int) (hl : zs.length = n) (hm : ys.length = n) (hw : ∀ z ∈ zs, (Lit.int k z).wf = true) (hv : ∀ z ∈ ys, (Lit.int k z).wf = true) (W : World) :
    (Op.equalIn 10000 t (.agg (zs.map (.int k ·)).toArray) (.agg (ys.map (.int k ·)).toArray)).run P W = .ok (decide (zs = ys)) W := by
  obtain ⟨r, hr, hiff⟩ := run_equalIn_deep 9998 2 t hk W 2 2 (.agg (zs.map (Value.int k ·)).toArray) (.agg (ys.map (Value.int k ·)).toArray) (zs.map (Lit.int k ·)) (ys.map (Lit.int k ·)) (by simp [Value.formed, ht, hl, hct]) (by simp [Value.formed, ht, hm, hct]) (lits_row 0 ht he hce hct zs hl hw) (lits_row 0 ht he hce hct ys hm hv)
  rw [show (10000 : Nat) = 9998 + 2 from rfl, hr]
  congr 1
  rw [Bool.eq_iff_iff, hiff, decide_eq_true_eq]
  constructor
  · intro h
    exact map_inj (fun a b e => by simpa using e) h
  · rintro rfl; rfl
theorem wf_u8 (v : UInt8) : (Lit.int .u8 (v.toNat : Int)).wf = true := by
  have := v.toNat_lt
  simp [Lit.wf, IntKind.min, IntKind.max, IntKind.signed, IntKind.bits]
  omega
/-- two arrays of bytes -/
theorem eq_bytes {P : Program} {t e : TypeId} {n : Nat} (ht : P.underlying t = some (.array n e)) (he : P.underlying e = some (.int .u8)) (hce : P.cellsOf e = 1) (hct : P.cellsOf t = n) (hk : P.keyTypeAt 2 t = true)
    (l m : List UInt8) (hl : l.length = n) (hm : m.length = n) (W : World) : (Op.equalIn 10000 t (.agg (l.map B).toArray) (.agg (m.map B).toArray)).run P W = .ok (decide (l = m)) W := by
  have h := eq_row ht he hce hct hk (l.map fun v => (v.toNat : Int)) (m.map fun v => (v.toNat : Int)) (by simpa using hl) (by simpa using hm) (fun z hz => by
    obtain ⟨v, -, rfl⟩ := List.mem_map.1 hz
    exact wf_u8 v) (fun z hz => by
    obtain ⟨v, -, rfl⟩ := List.mem_map.1 hz
    exact wf_u8 v) W
  simp only [List.map_map] at h
  have e1 : ∀ l : List UInt8, List.map ((fun x => Value.int .u8 x) ∘ fun v : UInt8 => (v.toNat : Int)) l = l.map B := fun l => rfl
  rw [e1, e1] at h
  rw [h]
  congr 1
  rw [Bool.eq_iff_iff, decide_eq_true_eq, decide_eq_true_eq]
  constructor
  · intro h
    exact map_inj (fun a b e => UInt8.toNat_inj.1 (Int.ofNat.inj e)) h
  · rintro rfl; rfl

end Go.Proofs.YtlleandelcjhjaaDoor.EqKit
namespace Go.Proofs.YtlleandelcjhjaaDoor.HeldKit
open Go Go.RowKit Go.Proofs.YtlleandelcjhjaaDoor.K Go.Proofs.YtlleandelcjhjaaDoor.ArrKit Go.Proofs.YtlleandelcjhjaaDoor.EqKit
/-- the blocks os stand, and nothing that was there is changed -/
def Held (w : World) (os : List (Nat × Obj)) (w' : World) : Prop := (∀ r ∈ os, w'.heap[r.1]? = some r.2) ∧ Fr0 w w'
theorem Held.keep {w w1 w2 : World} {os : List (Nat × Obj)} (hf : Fr0 w1 w2) (h : Held w os w1) : Held w os w2 := ⟨fun r hr => hf.keep (h.1 r hr) (fun h => h), h.2.then0 hf⟩
theorem Held.drew {w w1 : World} {os : List (Nat × Obj)} (h : Held w os w1) : Held w os w1.drew := ⟨h.1, h.2.drew⟩
theorem Held.f {w w1 : World} {os : List (Nat × Obj)} (h : Held w os w1) : Fr0 w w1 := h.2
theorem Held.a0 {w w1 : World} {r : Nat × Obj} {os : List (Nat × Obj)} (h : Held w (r :: os) w1) : w1.heap[r.1]? = some r.2 := h.1 _ (List.mem_cons_self ..)
theorem Held.tl {w w1 : World} {r : Nat × Obj} {os : List (Nat × Obj)} (h : Held w (r :: os) w1) : Held w os w1 := ⟨fun r hr => h.1 r (List.mem_cons_of_mem _ hr), h.2⟩
theorem Held.nil {w w1 : World} (h : Fr0 w w1) : Held w [] w1 := ⟨fun r hr => (by cases hr), h⟩
theorem Held.cons {w w1 : World} {g : Nat} {o : Obj} {os : List (Nat × Obj)} (h0 : w1.heap[g]? = some o) (h : Held w os w1) : Held w ((g, o) :: os) w1 := ⟨fun r hr => by
  rcases List.mem_cons.1 hr with rfl | hr
  · exact h0
  · exact h.1 r hr, h.2⟩
theorem yields_row {P : Program} {ops : Array Oper} {S : World → Prop} {op : Oper} {a : Act} (hw : Region.wanted op (yielded ops a.tmps) = true) (ty : TypeId) (x : Operand) (ho : op.op = .load ty x)
    (g : Nat) (hx : a.eval x = .pointer (some ⟨g, 0, none⟩)) (t : TypeId) (cs : Array Value) (fr : Nat × Nat) (d : TypeDesc) (hS : ∀ w, S w → w.heap[g]? = some (.cells cs t fr))
    (hu : P.underlying ty = some d) (hd : (match d with | .struct _ | .array _ _ => true | _ => false) = true) (hi : (P.info? ty).map (·.size) = some cs.size) : YieldsIf P ops S op (.agg cs) a :=
  .inl ⟨hw, fun w hw' => by
    unfold execOp
    simp only [ho, hx, Instr.loadAt, Instr.sureAddr, Sem.run_bind, Sem.run_pure, Result.andThen_ok, run_loadVar_row w g t ty cs fr d (hS w hw') hu hd hi]⟩
theorem results_ct {P : Program} {fn : Func} {p u : Tmp} {ty : TypeId} (h : fn.results = #[.cell p ty, .tmp u]) (tmps : Array Value) (w : World) (g : Nat) (t : TypeId) (cs : Array Value) (fr : Nat × Nat) (d : TypeDesc)
    (hp : tmps.getD p undef = .pointer (some ⟨g, 0, none⟩)) (hg : w.heap[g]? = some (.cells cs t fr))
    (hu : P.underlying ty = some d) (hd : (match d with | .struct _ | .array _ _ => true | _ => false) = true) (hi : (P.info? ty).map (·.size) = some cs.size) :
    (results fn tmps).run P w = .ok (.tuple #[.agg cs, tmps.getD u undef]) w := by
  have hp' : tmps[p]?.getD undef = .pointer (some ⟨g, 0, none⟩) := by simpa using hp
  simp [results, h, hp', asAddr, run_loadVar_row w g t ty cs fr d hg hu hd hi]
/-- the end of a function whose results are a row in memory and a number -/
theorem fin_ct {P : Program} {fn : Func} {R : Ending → World → Prop} {a : Act} {w : World} {p u : Tmp} {ty : TypeId} (g : Nat) (t : TypeId) (cs : Array Value) (x : Value) {d : TypeDesc}
    (h : fn.results = #[.cell p ty, .tmp u]) (hp : a.tmps.getD p undef = .pointer (some ⟨g, 0, none⟩)) (hx : a.tmps.getD u undef = x) (hds : a.defers = [])
    (hu : P.underlying ty = some d) (hd : (match d with | .struct _ | .array _ _ => true | _ => false) = true) (hi : (P.info? ty).map (·.size) = some cs.size)
    (hg : w.heap[g]? = some (.cells cs t (0, 0))) (hR : R (.returned (.tuple #[.agg cs, x])) w) : bodyPost P fn R .ret a w := by
  subst hx
  exact bodyPost_ret (results_ct h _ _ g t cs (0, 0) d hp hg hu hd hi) hds hR

section
universe u
variable {α : Type u}
theorem zA {xs : List α} {i : Nat} (h : i < xs.toArray.size) : xs.toArray[i] = xs[i]'(by simpa using h) := rfl
theorem zB (a : α) (ys : List α) (i : Nat) (h : i + 1 < (a :: ys).length) : (a :: ys)[i + 1] = ys[i]'(by simpa using h) := rfl
theorem zC (a : α) (ys : List α) (h : 0 < (a :: ys).length) : (a :: ys)[0] = a := rfl
theorem zD (l : List α) (i : Nat) (a : α) : l.toArray.setIfInBounds i a = (l.set i a).toArray := List.setIfInBounds_toArray l i a
theorem zE {x : α} {xs : List α} {a : α} : (x :: xs).set 0 a = a :: xs := rfl
theorem zF {x : α} {xs : List α} {i : Nat} {a : α} : (x :: xs).set (i + 1) a = x :: xs.set i a := rfl
end
theorem tk {P : Program} {md : Region.Mode} {ops : Array Oper} {Q : Exit → Act → World → Prop} {S : World → Prop} {i : Nat} {oi : Oper} {v : Value} {fuel : Nat} {listed : Array Bool} {a : Act} {w : World} (hi : ops[i]? = some oi) (hy : YieldsIf P ops S oi v a) (hS : S w)
    (h : wpAnyH P md ops Q S fuel (listed.setIfInBounds i true) (a.put oi.dst v) w) (hs : Region.noSelect ops = true := by kernel_rfl) (hf : Region.free md ops listed i = true := by kernel_rfl) (hr : (Region.ready md ops listed).contains i = true := by kernel_rfl)
    (hQ : ∀ c a w, Q (.panic c) (a.put oi.dst v) w → Q (.panic c) a w := by exact fun _ _ _ h => h) : wpAnyH P md ops Q S (fuel + 1) listed a w := wpAnyH_take hi hs hf hr hQ hy hS h
theorem tk0 {P : Program} {md : Region.Mode} {ops : Array Oper} {Q : Exit → Act → World → Prop} {S : World → Prop} {i : Nat} {oi : Oper} {v : Value} {fuel : Nat} {listed : Array Bool} {a : Act} {w : World} (hi : ops[i]? = some oi) (hS : S w)
    (h : wpAnyH P md ops Q S fuel (listed.setIfInBounds i true) (a.put oi.dst v) w) (hy : YieldsIf P ops S oi v a := by exact Or.inl ⟨by kernel_rfl, fun w hSw => by first | kernel_rfl | (go_simp; done)⟩) (hs : Region.noSelect ops = true := by kernel_rfl) (hf : Region.free md ops listed i = true := by kernel_rfl) (hr : (Region.ready md ops listed).contains i = true := by kernel_rfl)
    (hQ : ∀ c a w, Q (.panic c) (a.put oi.dst v) w → Q (.panic c) a w := by exact fun _ _ _ h => h) : wpAnyH P md ops Q S (fuel + 1) listed a w := wpAnyH_take hi hs hf hr hQ hy hS h

end Go.Proofs.YtlleandelcjhjaaDoor.HeldKit
