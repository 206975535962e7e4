/- Words for all walks of this seat: blocks known whole, frames, bytes. Plain theorems over any program. -/
import Derived.Below
import Derived.Laws.Rows
import Derived.Deep.MidRow
import Derived.Deep.Draws
import Derived.Laws.Slices
import Derived.WalkKit
import Derived.Lib.Hide
import Derived.RowKit
import Derived.Laws.BitsLemmas
set_option linter.unusedVariables false
set_option linter.unusedSimpArgs false
namespace Go.Proofs.YtlleandelcjhjaaDoor.K
open Go Go.RowKit
variable {P : Program}

theorem sc_other (w : World) (a : Addr) (k : Nat) (v : Value) (h : k ≠ a.block) : (w.setCell a v).heap[k]? = w.heap[k]? := by
  simp only [World.setCell, Array.getElem?_modify]
  rw [if_neg (fun e => h e.symm)]

theorem al_old (w : World) (o : Obj) (i : Nat) (h : i < w.heap.size) : (w.alloc o).heap[i]? = w.heap[i]? := by
  show (w.heap.push o)[i]? = w.heap[i]?
  rw [Array.getElem?_push, if_neg (Nat.ne_of_lt h)]

/-! ### Blocks known whole -/
/-- block g is a row of the cells cs, none of them frozen -/
abbrev Bk (w : World) (g : Nat) (cs : Array Value) (t : TypeId) : Prop := w.heap[g]? = some (.cells cs t (0, 0))
theorem Bk.lt {w : World} {g : Nat} {o : Obj} (h : w.heap[g]? = some o) : g < w.heap.size := by
  by_cases hlt : g < w.heap.size
  · exact hlt
  · rw [Array.getElem?_eq_none (by omega)] at h; cases h
theorem Bk.cell {w : World} {g : Nat} {t : TypeId} {cs : Array Value} (h : Bk w g cs t) (i : Nat) : w.cell? ⟨g, i, none⟩ = cs[i]? := cell_of_row w g i cs t (0, 0) h
theorem Bk.free {w : World} {g : Nat} {t : TypeId} {cs : Array Value} (h : Bk w g cs t) (i : Nat) : w.frozen? ⟨g, i, none⟩ = false := frozen_of_row w g i cs t h
theorem Bk.set {w : World} {g : Nat} {t : TypeId} {cs : Array Value} (h : Bk w g cs t) (i : Nat) (v : Value) : Bk (w.setCell ⟨g, i, none⟩ v) g (cs.setIfInBounds i v) t := heap_setCell_same w g i cs t v h
theorem Bk.setOther {w : World} {g : Nat} {o : Obj} (h : w.heap[g]? = some o) (a : Addr) (v : Value) (hne : g ≠ a.block) : (w.setCell a v).heap[g]? = some o := (sc_other w a g v hne).trans h
theorem Bk.new (w : World) (o : Obj) : (w.alloc o).heap[w.heap.size]? = some o := heap_alloc_new w o
theorem Bk.alloc {w : World} {g : Nat} {o : Obj} (h : w.heap[g]? = some o) (o' : Obj) : (w.alloc o').heap[g]? = some o := (al_old w o' g (Bk.lt h)).trans h
theorem Bk.drew {w : World} {g : Nat} {o : Obj} (h : w.heap[g]? = some o) : w.drew.heap[g]? = some o := h
theorem Bk.drewN {w : World} {g : Nat} {o : Obj} (h : w.heap[g]? = some o) (n : Nat) : (w.drewN n).heap[g]? = some o := h

/-! ### Frames: all blocks that were there, but those of S, are as they were -/
structure Fr (S : Nat → Prop) (w w' : World) : Prop where
  os : w'.os = w.os
  tape : w'.tape = w.tape
  output : w'.output = w.output
  size : w.heap.size ≤ w'.heap.size
  block : ∀ i, i < w.heap.size → ¬ S i → w'.heap[i]? = w.heap[i]?
/-- nothing that was there is changed -/
abbrev Fr0 (w w' : World) : Prop := Fr (fun _ => False) w w'
theorem Fr.refl (S : Nat → Prop) (w : World) : Fr S w w := ⟨rfl, rfl, rfl, Nat.le_refl _, fun _ _ _ => rfl⟩
theorem Fr.trans {S : Nat → Prop} {w w1 w2 : World} (h : Fr S w w1) (k : Fr S w1 w2) : Fr S w w2 :=
  ⟨k.os.trans h.os, k.tape.trans h.tape, k.output.trans h.output, Nat.le_trans h.size k.size, fun i hi hs => (k.block i (Nat.lt_of_lt_of_le hi h.size) hs).trans (h.block i hi hs)⟩
theorem Fr.weaken {S S' : Nat → Prop} {w w1 : World} (h : Fr S w w1) (hs : ∀ i, i < w.heap.size → S i → S' i) : Fr S' w w1 :=
  ⟨h.os, h.tape, h.output, h.size, fun i hi hn => h.block i hi (fun hS => hn (hs i hi hS))⟩
theorem Fr.then {S S' : Nat → Prop} {w w1 w2 : World} (h : Fr S w w1) (k : Fr S' w1 w2) (hs : ∀ i, i < w.heap.size → S' i → S i) : Fr S w w2 :=
  ⟨k.os.trans h.os, k.tape.trans h.tape, k.output.trans h.output, Nat.le_trans h.size k.size, fun i hi hn => (k.block i (Nat.lt_of_lt_of_le hi h.size) (fun hS => hn (hs i hi hS))).trans (h.block i hi hn)⟩
theorem Fr.then0 {S : Nat → Prop} {w w1 w2 : World} (h : Fr S w w1) (k : Fr0 w1 w2) : Fr S w w2 := h.then k (fun _ _ h => h.elim)
theorem Fr.alloc {S : Nat → Prop} {w w1 : World} (h : Fr S w w1) (o : Obj) : Fr S w (w1.alloc o) :=
  h.then0 ⟨rfl, rfl, rfl, by simp, fun i hi _ => al_old w1 o i hi⟩
theorem Fr.drew {S : Nat → Prop} {w w1 : World} (h : Fr S w w1) : Fr S w w1.drew := ⟨h.os, h.tape, h.output, h.size, h.block⟩
theorem Fr.drewN {S : Nat → Prop} {w w1 : World} (h : Fr S w w1) (n : Nat) : Fr S w (w1.drewN n) := ⟨h.os, h.tape, h.output, h.size, h.block⟩
theorem Fr.set {S : Nat → Prop} {w w1 : World} (h : Fr S w w1) (a : Addr) (v : Value) (ha : w.heap.size ≤ a.block ∨ S a.block) : Fr S w (w1.setCell a v) :=
  ⟨h.os, h.tape, h.output, by simpa [World.setCell] using h.size, fun i hi hs => (sc_other w1 a i v (fun e => by
    subst e
    rcases ha with ha | ha
    · omega
    · exact hs ha)).trans (h.block i hi hs)⟩
theorem Fr0.below {w w' : World} (h : Fr0 w w') : Below w.heap.size w w' := ⟨h.os, h.tape, h.output, h.size, fun i hi => h.block i hi (fun h => h)⟩
theorem Fr0.of_below {w w' : World} (h : Below w.heap.size w w') : Fr0 w w' := ⟨h.os, h.tape, h.output, h.size, fun i hi _ => h.block i hi⟩
theorem Fr.keep {S : Nat → Prop} {w w1 : World} (h : Fr S w w1) {g : Nat} {o : Obj} (hg : w.heap[g]? = some o) (hs : ¬ S g) : w1.heap[g]? = some o := (h.block g (Bk.lt hg) hs).trans hg
theorem Fr.cell {S : Nat → Prop} {w w1 : World} (h : Fr S w w1) (b o : Nat) (hb : b < w.heap.size) (hs : ¬ S b) : w1.cell? ⟨b, o, none⟩ = w.cell? ⟨b, o, none⟩ := by
  simp only [World.cell?, h.block b hb hs]
theorem Fr.froz {S : Nat → Prop} {w w1 : World} (h : Fr S w w1) (b o : Nat) (hb : b < w.heap.size) (hs : ¬ S b) : w1.frozen? ⟨b, o, none⟩ = w.frozen? ⟨b, o, none⟩ := by
  simp only [World.frozen?, h.block b hb hs]
theorem Fr.lt {S : Nat → Prop} {w w1 : World} (h : Fr S w w1) {g : Nat} (hg : g < w.heap.size) : g < w1.heap.size := Nat.lt_of_lt_of_le hg h.size

/-! ### Bytes -/
/-- a byte as a value -/
def B (v : UInt8) : Value := .int .u8 (v.toNat : Int)
theorem B_def (v : UInt8) : B v = .int .u8 (v.toNat : Int) := rfl
theorem B_inj {a b : UInt8} (h : B a = B b) : a = b := by
  simp only [B, Value.int.injEq, Int.natCast_inj, true_and] at h
  exact UInt8.toNat_inj.mp h
theorem B_ofNat (n : Nat) : B (UInt8.ofNat n) = .int .u8 ((n % 256 : Nat) : Int) := by simp [B, UInt8.toNat_ofNat']
theorem B_one (v : UInt8) : (B v).oneCell' = true := rfl
theorem byte_lt (v : UInt8) : v.toNat < 256 := v.toNat_lt
/-- from the place A on the bytes l can be read -/
def Rd (w : World) (A : Option Addr) (l : List UInt8) : Prop := ∀ i (h : i < l.length), ∃ a, A = some a ∧ w.cell? (a.add i) = some (B l[i])
theorem add_form (b o i : Nat) : (⟨b, o, none⟩ : Addr).add i = ⟨b, o + i, none⟩ := Addr.add_mid b o i
/-- a place of at least one byte, written out -/
theorem Rd.form {w : World} {A : Option Addr} {l : List UInt8} (h : Rd w A l) (hl : 0 < l.length) : ∃ b o, A = some ⟨b, o, none⟩ ∧ b < w.heap.size ∧ ∀ i (h : i < l.length), w.cell? ⟨b, o + i, none⟩ = some (B l[i]) := by
  obtain ⟨a, rfl, hc⟩ := h 0 hl
  obtain ⟨b, o, sp⟩ := a
  have hsp : sp = none := by
    cases sp with
    | none => rfl
    | some s =>
      simp only [Addr.add, if_true, World.cell?] at hc
      split at hc <;> simp at hc
  subst hsp
  have hb : b < w.heap.size := by
    have := World.block_lt_of_cell? w _ hc
    rwa [add_form] at this
  refine ⟨b, o, rfl, hb, fun i hi => ?_⟩
  obtain ⟨a', e, hc'⟩ := h i hi
  obtain rfl := Option.some.inj e
  rwa [add_form] at hc'
theorem Rd.of {w : World} {b o : Nat} {l : List UInt8} (h : ∀ i (h : i < l.length), w.cell? ⟨b, o + i, none⟩ = some (B l[i])) : Rd w (some ⟨b, o, none⟩) l :=
  fun i hi => ⟨_, rfl, by rw [add_form]; exact h i hi⟩
theorem Rd.nil (w : World) (A : Option Addr) : Rd w A [] := fun i h => by simp at h
theorem Rd.later {S : Nat → Prop} {w w1 : World} {A : Option Addr} {l : List UInt8} (h : Rd w A l) (f : Fr S w w1) (hs : ∀ a, A = some a → ¬ S a.block) : Rd w1 A l := by
  by_cases hl : 0 < l.length
  · obtain ⟨b, o, rfl, hb, hc⟩ := h.form hl
    exact Rd.of fun i hi => (f.cell b (o + i) hb (hs _ rfl)).trans (hc i hi)
  · have : l = [] := List.eq_nil_of_length_eq_zero (by omega)
    subst this
    exact Rd.nil _ _
theorem Rd.past {S : Nat → Prop} {w0 w w1 : World} {A : Option Addr} {l : List UInt8} (h0 : Rd w0 A l) (h : Rd w A l) (f : Fr S w w1) (hs : ∀ b, b < w0.heap.size → ¬ S b) : Rd w1 A l := by
  by_cases hl : 0 < l.length
  · obtain ⟨b, o, rfl, hb, -⟩ := h0.form hl
    exact h.later f (fun a e => by obtain rfl := Option.some.inj e; exact hs b hb)
  · have : l = [] := List.eq_nil_of_length_eq_zero (by omega)
    subst this
    exact Rd.nil _ _
theorem Rd.sub {w : World} {b o : Nat} {l : List UInt8} (h : Rd w (some ⟨b, o, none⟩) l) (k n : Nat) : Rd w (some ⟨b, o + k, none⟩) ((l.drop k).take n) := fun i hi => by
  simp only [List.length_take, List.length_drop] at hi
  obtain ⟨a, e, hc⟩ := h (k + i) (by omega)
  obtain rfl := Option.some.inj e
  refine ⟨_, rfl, ?_⟩
  rw [add_form] at hc ⊢
  rw [Nat.add_assoc, hc]
  simp
/-- what a block's cells say -/
theorem Rd.block {w : World} {g : Nat} {cs : Array Value} {t : TypeId} (h : Bk w g cs t) {o : Nat} {l : List UInt8} (hl : ∀ i (h : i < l.length), cs[o + i]? = some (B l[i])) : Rd w (some ⟨g, o, none⟩) l :=
  Rd.of fun i hi => (h.cell (o + i)).trans (hl i hi)

/-! ### Bits -/
theorem wrap_u64 (n : Int) : IntKind.u64.wrap n = n % 18446744073709551616 := by simp [IntKind.wrap, IntKind.bits, IntKind.signed]
theorem wrap_u32 (n : Int) : IntKind.u32.wrap n = n % 4294967296 := by simp [IntKind.wrap, IntKind.bits, IntKind.signed]
theorem wraps_u64 (n : Int) (h₀ : 0 ≤ n) (h₁ : n < 2 ^ 64) : IntKind.u64.wrap n = n := by rw [wrap_u64]; omega
theorem wraps_u8 (n : Int) (h₀ : 0 ≤ n) (h₁ : n < 2 ^ 8) : IntKind.u8.wrap n = n := by rw [IntKind.wrap_u8]; omega
theorem wraps_u32 (n : Int) (h₀ : 0 ≤ n) (h₁ : n < 2 ^ 32) : IntKind.u32.wrap n = n := by rw [wrap_u32]; omega
theorem or_u64 (a b : Nat) (ha : a < 2 ^ 64) (hb : b < 2 ^ 64) : bits .or .u64 a b = ((a ||| b : Nat) : Int) := (bits_nat .u64 64 (by decide) wraps_u64 a b ha hb).2
theorem or_u8 (a b : Nat) (ha : a < 2 ^ 8) (hb : b < 2 ^ 8) : bits .or .u8 a b = ((a ||| b : Nat) : Int) := (bits_nat .u8 8 (by decide) wraps_u8 a b ha hb).2
theorem or_high (a c k : Nat) (ha : a < 256 ^ k) (hc : c < 256) (hk : k < 8) : bits .or .u64 (a : Int) (IntKind.u64.wrap ((c : Int) * 2 ^ (8 * k))) = ((a + c * 256 ^ k : Nat) : Int) := by
  have hp : (256 : Nat) ^ k = 2 ^ (8 * k) := by rw [Nat.pow_mul]
  have hk8 : (256 : Nat) ^ (k + 1) ≤ 256 ^ 8 := Nat.pow_le_pow_right (by decide) (by omega)
  have hlt : a + c * 256 ^ k < 256 ^ (k + 1) := by
    rw [Nat.pow_succ]
    have : c * 256 ^ k ≤ 255 * 256 ^ k := Nat.mul_le_mul_right _ (by omega)
    omega
  have h64 : (256 : Nat) ^ 8 = 2 ^ 64 := by decide
  have hcl : c * 256 ^ k < 2 ^ 64 := by omega
  have e : ((c : Int) * 2 ^ (8 * k)) = ((c * 256 ^ k : Nat) : Int) := by rw [hp]; simp
  rw [e, wraps_u64 _ (by omega) (by exact_mod_cast hcl), or_u64 a _ (by omega) hcl, Nat.or_comm, hp, Nat.mul_comm, ← Nat.two_pow_add_eq_or_of_lt (hp ▸ ha) c, Nat.add_comm]

/-! ### Cells laid into a row -/
/-- the values vs laid into cs from o on -/
def lay (cs : Array Value) (o : Nat) : List Value → Array Value
  | [] => cs
  | v :: r => lay (cs.setIfInBounds o v) (o + 1) r
@[simp] theorem lay_size (vs : List Value) : ∀ (cs : Array Value) (o : Nat), (lay cs o vs).size = cs.size := by
  induction vs with
  | nil => intro cs o; rfl
  | cons v r ih => intro cs o; simp [lay, ih]
theorem lay_get (vs : List Value) : ∀ (cs : Array Value) (o i : Nat), (lay cs o vs)[i]? = if o ≤ i ∧ i < o + vs.length ∧ i < cs.size then vs[i - o]? else cs[i]? := by
  induction vs with
  | nil => intro cs o i; simp only [lay, List.length_nil]; rw [if_neg (by omega)]
  | cons v r ih =>
    intro cs o i
    simp only [lay]
    rw [ih, Array.getElem?_setIfInBounds, Array.size_setIfInBounds, List.length_cons]
    by_cases h1 : o + 1 ≤ i ∧ i < o + 1 + r.length ∧ i < cs.size
    · rw [if_pos h1, if_pos (by omega), show i - o = (i - (o + 1)) + 1 by omega, List.getElem?_cons_succ]
    · rw [if_neg h1]
      by_cases h2 : o = i
      · subst h2
        by_cases h3 : o < cs.size
        · rw [if_pos rfl, if_pos h3, if_pos (by omega)]; simp
        · rw [if_pos rfl, if_neg h3, if_neg (by omega), Array.getElem?_eq_none (by omega)]
      · rw [if_neg h2, if_neg (by omega)]
theorem lay_snoc (vs : List Value) (v : Value) : ∀ (cs : Array Value) (o : Nat), lay cs o (vs ++ [v]) = (lay cs o vs).setIfInBounds (o + vs.length) v := by
  induction vs with
  | nil => intro cs o; rfl
  | cons u r ih => intro cs o; simp only [List.cons_append, lay, ih, List.length_cons]; rw [show o + 1 + r.length = o + (r.length + 1) by omega]
theorem lay_take {cs : Array Value} {o k : Nat} {vs : List Value} (hk : k < vs.length) : lay cs o (vs.take (k + 1)) = (lay cs o (vs.take k)).setIfInBounds (o + k) vs[k] := by
  rw [List.take_succ_eq_append_getElem hk, lay_snoc, List.length_take, Nat.min_eq_left (by omega)]

theorem bk_bytes {l : List UInt8} {rest : List Value} {i : Nat} (h : i < l.length) : ((l.map B ++ rest).toArray)[i]? = some (B l[i]) := by
  simp [List.getElem?_append, h]
end Go.Proofs.YtlleandelcjhjaaDoor.K
