/- What a row wants of an argument that is a node. -/
import Derived.Test.YtfjkbabeceaelaaRowArr
import Derived.Test.YtfjkbabeceaelaaInoKit
set_option linter.unusedVariables false
set_option linter.unusedSimpArgs false
namespace Go.Proofs.Ytfjkbabeceaelaa.RowIno
open Go Go.RowKit Go.Proofs.Ytfjkbabeceaelaa.K Go.Proofs.Ytfjkbabeceaelaa.RowKit Go.Proofs.Ytfjkbabeceaelaa.RowBytes Go.Proofs.Ytfjkbabeceaelaa.RowArr Go.Proofs.Ytfjkbabeceaelaa.PtrKit Go.Proofs.Ytfjkbabeceaelaa.InoKit

theorem ptr_list (l : List Value) (hl : l.length = 34) (h : ∀ (i : Nat) (x : Value), l[i]? = some x → (i < 2 → ∃ n, x = .int .i64 n ∧ (Lit.int .i64 n).wf = true) ∧ (2 ≤ i → ∃ n, x = .int .u8 n ∧ (Lit.int .u8 n).wf = true)) :
    ∃ v : V3, l = v.pc ∧ v.ok := by
  match l, hl with
  | x :: y :: r, hl =>
    obtain ⟨a, rfl, ha⟩ := (h 0 x rfl).1 (by omega)
    obtain ⟨b, rfl, hb⟩ := (h 1 y rfl).1 (by omega)
    obtain ⟨zs, rfl, hz⟩ := ints_list (k := .u8) r (fun v hv => by
      obtain ⟨i, hi, rfl⟩ := List.getElem_of_mem hv
      exact (h (i + 2) r[i] (by simp [List.getElem?_eq_getElem hi])).2 (by omega))
    obtain ⟨s, rfl⟩ := bytes_of zs hz
    refine ⟨⟨a, b, s⟩, ?_, ?_, ha, hb⟩
    · rw [V3.pc, PC, List.map_map]; rfl
    · simpa using hl
theorem node_list (l : List Value) (hl : l.length = 39) (h : ∀ (i : Nat) (v : Value), l[i]? = some v → (i < 5 ∨ 37 ≤ i → ∃ n, v = .int .i64 n ∧ (Lit.int .i64 n).wf = true) ∧ (5 ≤ i → i < 37 → ∃ n, v = .int .u8 n ∧ (Lit.int .u8 n).wf = true)) :
    ∃ x : NV, l = x.cells ∧ x.ok := by
  match l, hl with
  | x :: y :: z :: r, hl =>
    obtain ⟨n, rfl, hn⟩ := (h 0 x rfl).1 (by omega)
    obtain ⟨k, rfl, hk⟩ := (h 1 y rfl).1 (by omega)
    obtain ⟨q, rfl, hq⟩ := (h 2 z rfl).1 (by omega)
    have hr : r.length = 36 := by simpa using hl
    obtain ⟨v, hv, hvok⟩ := ptr_list (r.take 34) (by rw [List.length_take]; omega) (fun i w hw => by
      rw [List.getElem?_take] at hw
      split at hw
      · have := h (i + 3) w hw
        exact ⟨fun h2 => this.1 (by omega), fun h2 => this.2 (by omega) (by omega)⟩
      · cases hw)
    obtain ⟨s, hs⟩ : ∃ s, r[34]? = some s := ⟨_, List.getElem?_eq_getElem (by omega)⟩
    obtain ⟨c, hc⟩ : ∃ c, r[35]? = some c := ⟨_, List.getElem?_eq_getElem (by omega)⟩
    obtain ⟨sn, rfl, hsn⟩ := (h 37 s hs).1 (by omega)
    obtain ⟨cn, rfl, hcn⟩ := (h 38 c hc).1 (by omega)
    have hd : r.drop 34 = [.int .i64 sn, .int .i64 cn] := by
      apply List.ext_getElem?
      intro i
      rw [List.getElem?_drop]
      rcases (show i = 0 ∨ i = 1 ∨ 2 ≤ i by omega) with rfl | rfl | h2
      · exact hs
      · exact hc
      · rw [List.getElem?_eq_none (by omega), List.getElem?_eq_none (by simpa using h2)]
    refine ⟨⟨n, k, q, v, sn, cn⟩, ?_, hvok, hn, hk, hq, hsn, hcn⟩
    rw [NV.cells, ← hv, ← hd, List.take_append_drop]
theorem node_of {cs : Array Value} (hl : cs.size = 39) (h : ∀ (i : Nat) (v : Value), cs[i]? = some v → (i < 5 ∨ 37 ≤ i → ∃ n, v = .int .i64 n ∧ (Lit.int .i64 n).wf = true) ∧ (5 ≤ i → i < 37 → ∃ n, v = .int .u8 n ∧ (Lit.int .u8 n).wf = true)) :
    ∃ x : NV, cs = x.cells.toArray ∧ x.ok := by
  obtain ⟨x, hx, ho⟩ := node_list cs.toList (by simpa using hl) (fun i v hv => h i v (by simpa using hv))
  exact ⟨x, by rw [← hx], ho⟩

end Go.Proofs.Ytfjkbabeceaelaa.RowIno
