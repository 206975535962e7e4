/- What a row wants of an argument that is an array of numbers. -/
import Derived.Test.YtfjkbabeceaelaaRowKit
import Derived.Test.YtfjkbabeceaelaaRowBytes
import Derived.Test.YtfjkbabeceaelaaKit
set_option linter.unusedVariables false
set_option linter.unusedSimpArgs false
namespace Go.Proofs.Ytfjkbabeceaelaa.RowArr
open Go Go.RowKit Go.Proofs.Ytfjkbabeceaelaa.K Go.Proofs.Ytfjkbabeceaelaa.RowKit Go.Proofs.Ytfjkbabeceaelaa.RowBytes

theorem ints_list {k : IntKind} : ∀ (l : List Value), (∀ x ∈ l, ∃ n, x = .int k n ∧ (Lit.int k n).wf = true) → ∃ zs : List Int, l = zs.map (Value.int k ·) ∧ ∀ z ∈ zs, (Lit.int k z).wf = true
  | [], _ => ⟨[], rfl, fun z hz => by cases hz⟩
  | x :: r, h => by
    obtain ⟨n, rfl, hn⟩ := h x (List.mem_cons_self ..)
    obtain ⟨zs, rfl, hz⟩ := ints_list r (fun y hy => h y (List.mem_cons_of_mem _ hy))
    exact ⟨n :: zs, rfl, fun z hz' => by
      rcases List.mem_cons.1 hz' with rfl | h'
      · exact hn
      · exact hz z h'⟩
theorem ints_of {k : IntKind} {cs : Array Value} (h : ∀ (i : Nat) (x : Value), cs[i]? = some x → ∃ n, x = .int k n ∧ (Lit.int k n).wf = true) : ∃ zs : List Int, cs = (zs.map (Value.int k ·)).toArray ∧ ∀ z ∈ zs, (Lit.int k z).wf = true := by
  obtain ⟨zs, hz, hw⟩ := ints_list (k := k) cs.toList (fun x hx => by
    obtain ⟨i, hi, rfl⟩ := List.getElem_of_mem hx
    exact h i _ (by rw [← Array.getElem?_toList, List.getElem?_eq_getElem hi]))
  exact ⟨zs, by rw [← hz], hw⟩
theorem nats_of : ∀ (zs : List Int), (∀ n ∈ zs, (Lit.int .u32 n).wf = true) → ∃ l : List Nat, zs = l.map (fun n : Nat => (n : Int)) ∧ ∀ n ∈ l, n < 4294967296
  | [], _ => ⟨[], rfl, fun n h => by cases h⟩
  | z :: r, h => by
    obtain ⟨l, hl, hw⟩ := nats_of r (fun n hn => h n (List.mem_cons_of_mem _ hn))
    have hz := h z (List.mem_cons_self ..)
    have hz' : 0 ≤ z ∧ z ≤ 4294967295 := by simpa [Lit.wf, IntKind.min, IntKind.max, IntKind.signed, IntKind.bits] using hz
    refine ⟨z.toNat :: l, ?_, fun n hn => ?_⟩
    · rw [List.map_cons, ← hl]
      congr 1
      omega
    · rcases List.mem_cons.1 hn with rfl | h'
      · omega
      · exact hw n h'

end Go.Proofs.Ytfjkbabeceaelaa.RowArr
