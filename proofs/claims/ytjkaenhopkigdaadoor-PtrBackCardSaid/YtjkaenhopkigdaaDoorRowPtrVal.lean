/- What a row wants of an argument that is a pointer. -/
import Derived.Test.YtjkaenhopkigdaaDoorRowArr
import Derived.Test.YtjkaenhopkigdaaDoorPtrKit
set_option linter.unusedVariables false
set_option linter.unusedSimpArgs false
namespace Go.Proofs.YtjkaenhopkigdaaDoor.RowPtrVal
open Go Go.RowKit Go.Proofs.YtjkaenhopkigdaaDoor.K Go.Proofs.YtjkaenhopkigdaaDoor.RowKit Go.Proofs.YtjkaenhopkigdaaDoor.RowBytes Go.Proofs.YtjkaenhopkigdaaDoor.RowArr Go.Proofs.YtjkaenhopkigdaaDoor.PtrKit

theorem ptr_list (l : List Value) (hl : l.length = 34) (h : ∀ (i : Nat) (x : Value), l[i]? = some x → (i < 2 → ∃ n, x = .int .i64 n ∧ (Lit.int .i64 n).wf = true) ∧ (2 ≤ i → ∃ n, x = .int .u8 n ∧ (Lit.int .u8 n).wf = true)) :
    ∃ (a b : Int) (s : List UInt8), l = PC a b s ∧ s.length = 32 ∧ (Lit.int .i64 a).wf = true ∧ (Lit.int .i64 b).wf = true := by
  match l, hl with
  | x :: y :: r, hl =>
    obtain ⟨a, rfl, ha⟩ := (h 0 x rfl).1 (by omega)
    obtain ⟨b, rfl, hb⟩ := (h 1 y rfl).1 (by omega)
    obtain ⟨zs, rfl, hz⟩ := ints_list (k := .u8) r (fun v hv => by
      obtain ⟨i, hi, rfl⟩ := List.getElem_of_mem hv
      exact (h (i + 2) r[i] (by simp [List.getElem?_eq_getElem hi])).2 (by omega))
    obtain ⟨s, rfl⟩ := bytes_of zs hz
    refine ⟨a, b, s, ?_, ?_, ha, hb⟩
    · rw [PC, List.map_map]; rfl
    · simpa using hl
theorem ptr_of {cs : Array Value} (hl : cs.size = 34) (h : ∀ (i : Nat) (x : Value), cs[i]? = some x → (i < 2 → ∃ n, x = .int .i64 n ∧ (Lit.int .i64 n).wf = true) ∧ (2 ≤ i → ∃ n, x = .int .u8 n ∧ (Lit.int .u8 n).wf = true)) :
    ∃ (a b : Int) (s : List UInt8), cs = (PC a b s).toArray ∧ s.length = 32 ∧ (Lit.int .i64 a).wf = true ∧ (Lit.int .i64 b).wf = true := by
  obtain ⟨a, b, s, hcs, r⟩ := ptr_list cs.toList (by simpa using hl) (fun i x hx => h i x (by simpa using hx))
  exact ⟨a, b, s, by rw [← hcs], r⟩

end Go.Proofs.YtjkaenhopkigdaaDoor.RowPtrVal
