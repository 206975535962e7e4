/- What the rows of this seat share: arguments read behind the call as they read before it; a value's cells, out of its being formed. -/
import Derived.Test.YtlleandelcjhjaaDoorRows
import Derived.ReadAgain
import Derived.ChangeStays
import Derived.ChangeOld
import Derived.Below
import Derived.ProofKit
import Derived.OpenShut
import Derived.SizedLaws
set_option linter.unusedVariables false
set_option linter.unusedSimpArgs false
namespace Go.Proofs.YtlleandelcjhjaaDoor.RowKit
open Go Go.ChangeShapes Go.WideShapes Go.ChangeAt Go.RowKit

theorem own : ownKnob Tryd.prog.godebug = none := by kernel_rfl
theorem kids : Kids Tryd.prog (· < Tryd.prog.types.size) := kids_rows (by kernel_rfl) (by kernel_rfl)
theorem full : ∀ t e, t < Tryd.prog.types.size → Tryd.prog.underlying t = some (.slice e) → 0 < Tryd.prog.cellsOf e := slices_full_of Tryd.prog (by kernel_rfl)

section
variable {H : Type} {enc : TypeId × Value → H} {W W' : World}
theorem arg_stays (hb : Below W.heap.size W W') {sp : Nat → Bool} {t : TypeId} {v : Value} {d : DataW H} {ps : List MemPlace} (ht : t < Tryd.prog.types.size)
    (h : DataW.Trod enc Tryd.prog W 0 (fun _ => true) true t v d ps) (hlt : ∀ p ∈ ps, p.block < W.heap.size) (hs : ∀ p ∈ ps, sp p.block = true) : DataW.Trod enc Tryd.prog W' 0 sp true t v d ps := by
  obtain ⟨n, hn⟩ := h
  refine ⟨n, DataW.trod_stays kids (fun ht h => full _ _ ht h) (fun h => by cases h) ht hn (fun p hp => ?_) hs⟩
  have hl := hlt p hp
  cases p with
  | cell b off => exact hb.cell (p := ⟨b, off, none⟩) hl
  | map b => exact hb.block b hl
theorem args_stay0 (hb : Below W.heap.size W W') {sp : Nat → Bool} : ∀ {ts : List TypeId} {vs : List Value} {ds : List (DataW H)} {ps : List MemPlace}, (∀ t ∈ ts, t < Tryd.prog.types.size) →
    DataW.TrodAll enc Tryd.prog W 0 (fun _ => true) true ts vs ds ps → (∀ p ∈ ps, p.block < W.heap.size) → (∀ p ∈ ps, sp p.block = true) → DataW.TrodAll enc Tryd.prog W' 0 sp true ts vs ds ps
  | [], [], [], _, _, h, _, _ => h
  | _ :: _, _ :: _, _ :: _, _, hT, ⟨p, q, h1, h2, e⟩, hl, hs =>
    ⟨p, q, arg_stays hb (hT _ (List.mem_cons.2 (Or.inl rfl))) h1 (fun x hx => hl x (by rw [e]; exact List.mem_append_left _ hx)) (fun x hx => hs x (by rw [e]; exact List.mem_append_left _ hx)),
      args_stay0 hb (fun t ht => hT t (List.mem_cons.2 (Or.inr ht))) h2 (fun x hx => hl x (by rw [e]; exact List.mem_append_right _ hx)) (fun x hx => hs x (by rw [e]; exact List.mem_append_right _ hx)), e⟩
/-- ALL ARGUMENTS READ AS THEY DID, whatever was made since. -/
theorem args_stay (hb : Below W.heap.size W W') {sp : Nat → Bool} {ts : List TypeId} {vs : List Value} {ds : List (DataW H)} {ps : List MemPlace} (hT : ∀ t ∈ ts, t < Tryd.prog.types.size)
    (h : DataW.TrodAll enc Tryd.prog W 0 (fun _ => true) true ts vs ds ps) (hs : ∀ p ∈ ps, sp p.block = true) : DataW.TrodAll enc Tryd.prog W' 0 sp true ts vs ds ps :=
  args_stay0 hb hT h h.lt hs
end

section
variable {P : Program} {w : World} {r : Reach} {base : Nat}
/-- A struct's, or an array's, cells, each formed. -/
theorem agg_of {t : TypeId} {v : Value} {d : TypeDesc} {ts : List TypeId} (hu : P.underlying t = some d) (hd : (match d with | .struct _ | .array _ _ => true | _ => false) = true) (hts : P.cellTypes P.depth t = some ts)
    (h : Value.okWide P w r base t v) : ∃ cs : Array Value, v = .agg cs ∧ cs.size = P.cellsOf t ∧ ∀ i x, cs[i]? = some x → ∃ u, ts[i % ts.length]? = some u ∧ Cell.okWide P w r base u x := by
  unfold Value.okWide at h
  rw [hu] at h
  have h' : ∃ cs, v = .agg cs ∧ cs.size = P.cellsOf t ∧ Row.okWide P w r base t cs := by
    cases d <;> first | exact h | cases hd
  obtain ⟨cs, hv, hz, ts', h1, -, h2⟩ := h'
  rw [hts] at h1
  obtain rfl := Option.some.inj h1
  exact ⟨cs, hv, hz, h2⟩
theorem cell_int {u : TypeId} {k : IntKind} {x : Value} (hu : P.underlying u = some (.int k)) (h : Cell.okWide P w r base u x) : ∃ n, x = .int k n ∧ (Lit.int k n).wf = true := by
  unfold Cell.okWide at h
  rw [hu] at h
  unfold Cell.ok at h
  rw [hu] at h
  cases x <;> first | (obtain ⟨rfl, h⟩ := h; exact ⟨_, rfl, by simpa [Lit.wf, IntKind.has] using h⟩) | exact h.elim
theorem cell_bool {u : TypeId} {x : Value} (hu : P.underlying u = some .bool) (h : Cell.okWide P w r base u x) : ∃ b, x = .bool b := by
  unfold Cell.okWide at h
  rw [hu] at h
  unfold Cell.ok at h
  rw [hu] at h
  cases x <;> first | exact ⟨_, rfl⟩ | exact h.elim
end
theorem array6 {α : Type} {cs : Array α} (h : cs.size = 6) : ∃ c0 c1 c2 c3 c4 c5, cs = #[c0, c1, c2, c3, c4, c5] := by
  obtain ⟨l⟩ := cs
  match l, h with
  | [c0, c1, c2, c3, c4, c5], _ => exact ⟨c0, c1, c2, c3, c4, c5, rfl⟩
theorem i64_range {n : Int} (h : (Lit.int .i64 n).wf = true) : -9223372036854775808 ≤ n ∧ n ≤ 9223372036854775807 := by
  simpa [Lit.wf, IntKind.min, IntKind.max, IntKind.signed, IntKind.bits] using h
end Go.Proofs.YtlleandelcjhjaaDoor.RowKit
