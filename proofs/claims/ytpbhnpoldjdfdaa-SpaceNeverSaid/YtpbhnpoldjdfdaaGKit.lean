/- Loads and stores of whole rows, under a guard too; rows laid. -/
import Derived.Test.YtpbhnpoldjdfdaaKit
import Derived.Test.YtpbhnpoldjdfdaaArrKit
import Derived.Test.YtpbhnpoldjdfdaaHeldKit
import Derived.Laws.Build
set_option linter.unusedVariables false
set_option linter.unusedSimpArgs false
namespace Go.Proofs.Ytpbhnpoldjdfdaa.GKit
open Go Go.RowKit Go.Proofs.Ytpbhnpoldjdfdaa.K Go.Proofs.Ytpbhnpoldjdfdaa.ArrKit Go.Proofs.Ytpbhnpoldjdfdaa.HeldKit

theorem wpList_load_row_g {P : Program} {ops : Array Oper} {rest : List Oper} {o : Oper} {a : Act} {w : World} {Q : Exit → Act → World → Prop} (hw : Region.wanted o (yielded ops a.tmps) = true) (ty : TypeId) (x : Operand) (ho : o.op = .load ty x)
    (g : Nat) (hx : a.eval x = .pointer (some ⟨g, 0, none⟩)) (t : TypeId) (cs : Array Value) (fr : Nat × Nat) (d : TypeDesc) (hg : w.heap[g]? = some (.cells cs t fr))
    (hu : P.underlying ty = some d) (hd : (match d with | .struct _ | .array _ _ => true | _ => false) = true) (hi : (P.info? ty).map (·.size) = some cs.size)
    (h : wpList P ops Q rest (a.put o.dst (.agg cs)) w) : wpList P ops Q (o :: rest) a w := by
  unfold wpList
  rw [if_pos hw]
  exact Or.inl (wp_load_row ty x ho g hx t cs fr d hg hu hd hi h)
theorem wpList_load_mid_g {P : Program} {ops : Array Oper} {rest : List Oper} {o : Oper} {a : Act} {w : World} {Q : Exit → Act → World → Prop} (hw : Region.wanted o (yielded ops a.tmps) = true) (ty : TypeId) (x : Operand) (ho : o.op = .load ty x)
    (b of : Nat) (hx : a.eval x = .pointer (some ⟨b, of, none⟩)) (cs : List Value) (d : TypeDesc) (hc : w.rangeAt b of cs)
    (hu : P.underlying ty = some d) (hd : d.isRow = true) (hi : (P.info? ty).map (·.size) = some cs.length)
    (h : wpList P ops Q rest (a.put o.dst (.agg cs.toArray)) w) : wpList P ops Q (o :: rest) a w := by
  unfold wpList
  rw [if_pos hw]
  exact Or.inl (wp_load_mid ty x ho b of hx cs d hc hu hd hi h)
theorem sets_bk {g : Nat} {t : TypeId} : ∀ (vs : List Value) (o : Nat) (w : World) (cs : Array Value), Bk w g cs t → Bk (w.setCells g o vs) g (lay cs o vs) t
  | [], _, _, _, h => h
  | v :: r, o, w, cs, h => sets_bk r (o + 1) _ _ (h.set o v)
theorem sets_fr {g : Nat} {w0 : World} : ∀ (vs : List Value) (o : Nat) (w : World), Fr (· = g) w0 w → Fr (· = g) w0 (w.setCells g o vs)
  | [], _, _, h => h
  | v :: r, o, w, h => sets_fr r (o + 1) _ (h.set _ _ (.inr rfl))
theorem sets_fr0 {g : Nat} {w0 : World} (hg : w0.heap.size ≤ g) {S : Nat → Prop} : ∀ (vs : List Value) (o : Nat) (w : World), Fr S w0 w → Fr S w0 (w.setCells g o vs)
  | [], _, _, h => h
  | v :: r, o, w, h => sets_fr0 hg r (o + 1) _ (h.set _ _ (.inl hg))
theorem Fr.both {S S' : Nat → Prop} {w w1 w2 : World} (h : Fr S w w1) (k : Fr S' w1 w2) : Fr (fun i => S i ∨ S' i) w w2 :=
  ⟨k.os.trans h.os, k.tape.trans h.tape, k.output.trans h.output, Nat.le_trans h.size k.size, fun i hi hn => (k.block i (Nat.lt_of_lt_of_le hi h.size) (fun e => hn (.inr e))).trans (h.block i hi (fun e => hn (.inl e)))⟩
/-- what was made since is not of w -/
theorem Fr.new {S S' : Nat → Prop} {w w1 w2 : World} (h : Fr S w w1) (k : Fr S' w1 w2) (hs : ∀ i, S' i → S i ∨ w.heap.size ≤ i) : Fr S w w2 :=
  h.then k (fun i hi e => (hs i e).elim id (fun e => by omega))
theorem Fr.set1 (w : World) (p o : Nat) (v : Value) : Fr (fun i => i = p) w (w.setCell ⟨p, o, none⟩ v) := Fr.set (Fr.refl _ _) _ _ (.inr rfl)
theorem Fr.row1 (w : World) (p : Nat) (cs : Array Value) : Fr (fun i => i = p) w (w.setRow p cs) := ArrKit.Fr.row (Fr.refl _ _) _ _ (.inr rfl)
/-- the blocks os stand -/
def Stand (os : List (Nat × Obj)) (w : World) : Prop := ∀ r ∈ os, w.heap[r.1]? = some r.2
theorem Stand.nil (w : World) : Stand [] w := fun r h => by cases h
theorem Stand.cons {w : World} {g : Nat} {o : Obj} {os : List (Nat × Obj)} (h0 : w.heap[g]? = some o) (h : Stand os w) : Stand ((g, o) :: os) w := fun r hr => by
  rcases List.mem_cons.1 hr with rfl | hr
  · exact h0
  · exact h r hr
theorem Stand.drew {w : World} {os : List (Nat × Obj)} (h : Stand os w) : Stand os w.drew := h
theorem Stand.a0 {w : World} {r : Nat × Obj} {os : List (Nat × Obj)} (h : Stand (r :: os) w) : w.heap[r.1]? = some r.2 := h _ (List.mem_cons_self ..)
theorem Stand.tl {w : World} {r : Nat × Obj} {os : List (Nat × Obj)} (h : Stand (r :: os) w) : Stand os w := fun r hr => h r (List.mem_cons_of_mem _ hr)
theorem Stand.fr {S : Nat → Prop} {w w' : World} {os : List (Nat × Obj)} (h : Stand os w) (f : Fr S w w') (hs : ∀ r ∈ os, ¬ S r.1) : Stand os w' := fun r hr => f.keep (h r hr) (hs r hr)
theorem Fr.sets1 (w : World) (p o : Nat) (vs : List Value) : Fr (fun i => i = p) w (w.setCells p o vs) := sets_fr vs o w (Fr.refl _ _)
theorem there_bk {w : World} {g : Nat} {cs : Array Value} {t : TypeId} (h : Bk w g cs t) (o n : Nat) (hs : o + n ≤ cs.size) : w.there g o n := fun j hj => ⟨by rw [h.cell, Array.getElem?_eq_getElem (by omega)]; rfl, h.free _⟩
theorem build_eq {P : Program} {ops : Array Oper} {rest : List Oper} {o : Oper} {a : Act} {w : World} {Q : Exit → Act → World → Prop} (hg : o.guard = none) (t : TypeId) (parts : Array (Nat × Operand)) (ho : o.op = .build t parts) (cs : Array Value)
    (hf : P.built t (parts.map fun (i, x) => (i, a.eval x)).toList = some cs) (h : wpList P ops Q rest (a.put o.dst (.agg cs)) w) : wpList P ops Q (o :: rest) a w :=
  wpList_build hg t parts ho (by rw [hf]; rfl) (by rw [hf]; exact h)
theorem build_ev {P : Program} {ops : Array Oper} {rest : List Oper} {o : Oper} {a : Act} {w : World} {Q : Exit → Act → World → Prop} (hg : o.guard = none) (t : TypeId) (parts : Array (Nat × Operand)) (ho : o.op = .build t parts) (L : List (Nat × Value))
    (hp : (parts.map fun (i, x) => (i, a.eval x)).toList = L) (cs : Array Value) (hf : P.built t L = some cs) (h : wpList P ops Q rest (a.put o.dst (.agg cs)) w) : wpList P ops Q (o :: rest) a w :=
  build_eq hg t parts ho cs (by rw [hp]; exact hf) h

end Go.Proofs.Ytpbhnpoldjdfdaa.GKit
