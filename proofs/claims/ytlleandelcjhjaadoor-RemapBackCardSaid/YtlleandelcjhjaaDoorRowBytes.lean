/- What a row wants of an argument that is a slice of bytes. -/
import Derived.Test.YtlleandelcjhjaaDoorRowKit
import Derived.Test.YtlleandelcjhjaaDoorKit
import Derived.ChangeSlices
set_option linter.unusedVariables false
set_option linter.unusedSimpArgs false
namespace Go.Proofs.YtlleandelcjhjaaDoor.RowBytes
open Go Go.ChangeShapes Go.WideShapes Go.ChangeAt Go.RowKit Go.Proofs.YtlleandelcjhjaaDoor.RowKit Go.Proofs.YtlleandelcjhjaaDoor.K
section
variable {H : Type} {enc : TypeId × Value → H} {P : Program} {W : World}
theorem bytes_of : ∀ (zs : List Int), (∀ n ∈ zs, (Lit.int .u8 n).wf = true) → ∃ l : List UInt8, zs = l.map fun v => (v.toNat : Int)
  | [], _ => ⟨[], rfl⟩
  | z :: r, h => by
    obtain ⟨l, hl⟩ := bytes_of r (fun n hn => h n (List.mem_cons_of_mem _ hn))
    have hz := h z (List.mem_cons_self ..)
    have hz' : 0 ≤ z ∧ z ≤ 255 := by simpa [Lit.wf, IntKind.min, IntKind.max, IntKind.signed, IntKind.bits] using hz
    refine ⟨UInt8.ofNat z.toNat :: l, ?_⟩
    rw [List.map_cons, ← hl]
    congr 1
    simp only [UInt8.toNat_ofNat']
    omega
/-- A SLICE OF BYTES, OPENED. -/
theorem open_bytes {ts : List TypeId} {ds : List (DataW H)} {j : Nat} {b0 : Nat} {t e : TypeId} {v : Value} {d : DataW H} {p : List MemPlace} (ht : P.underlying t = some (.slice e)) (he : P.underlying e = some (.int .u8)) (hc : P.cellsOf e = 1) (hby : P.bytesOf e = 1)
    (hsz : (DataW.weightsEach P ts ds).all (· ≤ reachBytes) = true) (hj : ts[j]? = some t) (hd : ds[j]? = some d)
    (hv : Value.okWide P W .any b0 t v) (h : DataW.Trod enc P W 0 (fun _ => true) true t v d p) :
    ∃ (a : Option Addr) (n c : Nat) (l : List UInt8), v = .slice a n c ∧ l.length = n ∧ Rd W a l ∧ n ≤ c ∧ c ≤ 9223372036854775807 ∧ n ≤ 140737488351232 := by
  obtain ⟨fuel, hf⟩ := h
  have hvc : ∃ a n c, v = .slice a n c := by
    unfold Value.okWide at hv
    rw [ht] at hv
    unfold Cell.okWide at hv
    rw [ht] at hv
    unfold Cell.ok at hv
    rw [ht] at hv
    cases v <;> first | exact ⟨_, _, _, rfl⟩ | exact hv.elim
  obtain ⟨a, n, c, rfl⟩ := hvc
  rcases open_ints ht he hc hf with ⟨h1, -⟩ | ⟨x, len, cap, zs, h1, -, h3, h4, h5, h6, h7, h8⟩
  · simp only [Value.cells, List.cons.injEq, Value.slice.injEq, and_true] at h1
    obtain ⟨rfl, rfl, rfl⟩ := h1
    exact ⟨none, 0, 0, [], rfl, rfl, Rd.nil _ _, Nat.le_refl _, by omega, by omega⟩
  · simp only [Value.cells, List.cons.injEq, Value.slice.injEq, and_true] at h1
    obtain ⟨rfl, rfl, rfl⟩ := h1
    obtain ⟨l, rfl⟩ := bytes_of zs h8
    simp only [if_true, List.length_map] at h5
    simp only [Prod.mk.injEq] at h6
    have hsize := sized_slice hsz hj (hd.trans (congrArg some h6.1)) ht
    rw [hby, Nat.mul_one] at hsize
    have hz : (140737488351232 : Nat) = reachBytes := by decide
    have hm : maxLen = 9223372036854775807 := rfl
    refine ⟨some x, n, c, l.take n, rfl, by simp; omega, ?_, h3, by omega, ?_⟩
    · intro i hi
      simp only [List.length_take] at hi
      refine ⟨x, rfl, ?_⟩
      rw [h7 i (by simp; omega)]
      simp [B, List.getD, List.getElem?_eq_getElem (show i < l.length by omega)]
    · simp [lits] at hsize
      omega
end
theorem calls_below {P : Program} {f : FuncId} {args : Array Value} {w : World} {r : Ending} (h : Calls P f args w fun e w' => e = r ∧ Fr0 w w') : Calls P f args w fun e w' => e = r ∧ Below w.heap.size w w' :=
  h.mono fun _ _ ⟨a, b⟩ => ⟨a, b.below⟩
end Go.Proofs.YtlleandelcjhjaaDoor.RowBytes
