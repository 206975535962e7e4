/- Regions that draw their order, in which whole rows are read beside calls that change nothing that was there. -/
import Derived.Test.YtpbhnpoldjdfdaaEqKit
import Derived.Test.YtpbhnpoldjdfdaaArrKit
import Derived.Test.YtpbhnpoldjdfdaaKit
import Derived.Deep.RegionHeld3
set_option linter.unusedVariables false
set_option linter.unusedSimpArgs false
namespace Go.Proofs.Ytpbhnpoldjdfdaa.HeldKit
open Go Go.RowKit Go.Proofs.Ytpbhnpoldjdfdaa.K Go.Proofs.Ytpbhnpoldjdfdaa.ArrKit Go.Proofs.Ytpbhnpoldjdfdaa.EqKit

/-- the blocks os stand, and nothing that was there is changed -/
def Held (w : World) (os : List (Nat × Obj)) (w' : World) : Prop := (∀ r ∈ os, w'.heap[r.1]? = some r.2) ∧ Fr0 w w'
theorem Held.keep {w w1 w2 : World} {os : List (Nat × Obj)} (hf : Fr0 w1 w2) (h : Held w os w1) : Held w os w2 := ⟨fun r hr => hf.keep (h.1 r hr) (fun h => h), h.2.then0 hf⟩
theorem Held.drew {w w1 : World} {os : List (Nat × Obj)} (h : Held w os w1) : Held w os w1.drew := ⟨h.1, h.2.drew⟩
theorem Held.f {w w1 : World} {os : List (Nat × Obj)} (h : Held w os w1) : Fr0 w w1 := h.2
theorem Held.a0 {w w1 : World} {r : Nat × Obj} {os : List (Nat × Obj)} (h : Held w (r :: os) w1) : w1.heap[r.1]? = some r.2 := h.1 _ (List.mem_cons_self ..)
theorem Held.tl {w w1 : World} {r : Nat × Obj} {os : List (Nat × Obj)} (h : Held w (r :: os) w1) : Held w os w1 := ⟨fun r hr => h.1 r (List.mem_cons_of_mem _ hr), h.2⟩
theorem Held.nil {w w1 : World} (h : Fr0 w w1) : Held w [] w1 := ⟨fun r hr => (by cases hr), h⟩
theorem Held.cons {w w1 : World} {g : Nat} {o : Obj} {os : List (Nat × Obj)} (h0 : w1.heap[g]? = some o) (h : Held w os w1) : Held w ((g, o) :: os) w1 := ⟨fun r hr => by
  rcases List.mem_cons.1 hr with rfl | hr
  · exact h0
  · exact h.1 r hr, h.2⟩
theorem yields_row {P : Program} {ops : Array Oper} {S : World → Prop} {op : Oper} {a : Act} (hw : Region.wanted op (yielded ops a.tmps) = true) (ty : TypeId) (x : Operand) (ho : op.op = .load ty x)
    (g : Nat) (hx : a.eval x = .pointer (some ⟨g, 0, none⟩)) (t : TypeId) (cs : Array Value) (fr : Nat × Nat) (d : TypeDesc) (hS : ∀ w, S w → w.heap[g]? = some (.cells cs t fr))
    (hu : P.underlying ty = some d) (hd : (match d with | .struct _ | .array _ _ => true | _ => false) = true) (hi : (P.info? ty).map (·.size) = some cs.size) : YieldsIf P ops S op (.agg cs) a :=
  .inl ⟨hw, fun w hw' => by
    unfold execOp
    simp only [ho, hx, Instr.loadAt, Instr.sureAddr, Sem.run_bind, Sem.run_pure, Result.andThen_ok, run_loadVar_row w g t ty cs fr d (hS w hw') hu hd hi]⟩
theorem results_ct {P : Program} {fn : Func} {p u : Tmp} {ty : TypeId} (h : fn.results = #[.cell p ty, .tmp u]) (tmps : Array Value) (w : World) (g : Nat) (t : TypeId) (cs : Array Value) (fr : Nat × Nat) (d : TypeDesc)
    (hp : tmps.getD p undef = .pointer (some ⟨g, 0, none⟩)) (hg : w.heap[g]? = some (.cells cs t fr))
    (hu : P.underlying ty = some d) (hd : (match d with | .struct _ | .array _ _ => true | _ => false) = true) (hi : (P.info? ty).map (·.size) = some cs.size) :
    (results fn tmps).run P w = .ok (.tuple #[.agg cs, tmps.getD u undef]) w := by
  have hp' : tmps[p]?.getD undef = .pointer (some ⟨g, 0, none⟩) := by simpa using hp
  simp [results, h, hp', asAddr, run_loadVar_row w g t ty cs fr d hg hu hd hi]
/-- the end of a function whose results are a row in memory and a number -/
theorem fin_ct {P : Program} {fn : Func} {R : Ending → World → Prop} {a : Act} {w : World} {p u : Tmp} {ty : TypeId} (g : Nat) (t : TypeId) (cs : Array Value) (x : Value) {d : TypeDesc}
    (h : fn.results = #[.cell p ty, .tmp u]) (hp : a.tmps.getD p undef = .pointer (some ⟨g, 0, none⟩)) (hx : a.tmps.getD u undef = x) (hds : a.defers = [])
    (hu : P.underlying ty = some d) (hd : (match d with | .struct _ | .array _ _ => true | _ => false) = true) (hi : (P.info? ty).map (·.size) = some cs.size)
    (hg : w.heap[g]? = some (.cells cs t (0, 0))) (hR : R (.returned (.tuple #[.agg cs, x])) w) : bodyPost P fn R .ret a w := by
  subst hx
  exact bodyPost_ret (results_ct h _ _ g t cs (0, 0) d hp hg hu hd hi) hds hR

end Go.Proofs.Ytpbhnpoldjdfdaa.HeldKit
