/- Whole arrays out of blocks and into them. -/
import Derived.Test.YtpbhnpoldjdfdaaKit
import Derived.Outline
import Derived.LoopTactic
import Derived.Laws.Rows
import Derived.Laws.Tables
import Derived.StillTailTactics
import Derived.BigQuiet
import Derived.Deep.QuietTactic
set_option linter.unusedVariables false
set_option linter.unusedSimpArgs false
namespace Go.Proofs.Ytpbhnpoldjdfdaa.ArrKit
open Go Go.RowKit Go.Proofs.Ytpbhnpoldjdfdaa.K

theorem Bk.row {w : World} {g : Nat} {t : TypeId} {cs : Array Value} (h : Bk w g cs t) (c' : Array Value) : Bk (w.setRow g c') g c' t := setRow_heap w g cs c' t (0, 0) h
theorem Bk.rowOther {w : World} {g k : Nat} {o : Obj} (h : w.heap[k]? = some o) (c' : Array Value) (hne : k ≠ g) : (w.setRow g c').heap[k]? = some o := (setRow_other w g k c' hne).trans h
theorem Fr.row {S : Nat → Prop} {w w1 : World} (h : Fr S w w1) (g : Nat) (c' : Array Value) (hg : w.heap.size ≤ g ∨ S g) : Fr S w (w1.setRow g c') where
  os := h.os
  tape := h.tape
  output := h.output
  size := by rw [size_setRow]; exact h.size
  block := fun i hi hs => by
    rw [setRow_other _ _ _ _ (by rintro rfl; rcases hg with hg | hg; omega; exact hs hg)]
    exact h.block i hi hs
/-- the end of a function whose one result is an array in a block -/
theorem fin_c {P : Program} {fn : Func} {R : Ending → World → Prop} {a : Act} {w : World} {p : Tmp} {ty : TypeId} (g : Nat) (t : TypeId) (cs : Array Value) {d : TypeDesc}
    (h : fn.results = #[.cell p ty]) (hp : a.tmps.getD p undef = .pointer (some ⟨g, 0, none⟩)) (hds : a.defers = [])
    (hu : P.underlying ty = some d) (hd : (match d with | .struct _ | .array _ _ => true | _ => false) = true) (hi : (P.info? ty).map (·.size) = some cs.size)
    (hg : w.heap[g]? = some (.cells cs t (0, 0))) (hR : R (.returned (.agg cs)) w) : bodyPost P fn R .ret a w :=
  bodyPost_ret (results_cell_row h _ _ g t cs (0, 0) d hp hg hu hd hi) hds hR

end Go.Proofs.Ytpbhnpoldjdfdaa.ArrKit
