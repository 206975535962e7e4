/- What a row wants of an argument that is a slice of pointers. -/
import Derived.Test.YtjkaenhopkigdaaDoorRowPtrVal
import Derived.Test.YtjkaenhopkigdaaDoorPtrNode
import Derived.Deep.Slices
import Derived.OpenShut
set_option linter.unusedVariables false
set_option linter.unusedSimpArgs false
namespace Go.Proofs.YtjkaenhopkigdaaDoor.RowPtrs
open Go Go.RowKit Go.Proofs.YtjkaenhopkigdaaDoor.K Go.ChangeShapes Go.WideShapes Go.ChangeAt Go.Proofs.YtjkaenhopkigdaaDoor.RowKit Go.Proofs.YtjkaenhopkigdaaDoor.RowBytes Go.Proofs.YtjkaenhopkigdaaDoor.RowArr Go.Proofs.YtjkaenhopkigdaaDoor.PtrKit Go.Proofs.YtjkaenhopkigdaaDoor.PtrNode

section
variable {H : Type} {enc : TypeId × Value → H} {W : World}
theorem take_one {l : List Value} {i : Nat} {y : Value} (h : (l.drop i).take 1 = [y]) : l[i]? = some y := by
  have := congrArg (fun l => l[0]?) h
  simpa using this
theorem ptr_cells {base : Nat} {spare : Nat → Bool} {held : Bool} {fuel : Nat} {cs : List Value} {x : DataW H × List MemPlace} (h : DataW.trod enc Tryd.prog W base spare held fuel 26 cs = some x) : ∃ v : V3, cs = v.pc ∧ v.ok := by
  obtain ⟨xs, n, -, -, hl, hxl, hf⟩ := DataW.trod_struct Tryd.underlying26 h
  rw [cells_p] at hl
  have hxl' : xs.length = 3 := hxl
  have f0 := hf 0 _ rfl
  have f1 := hf 1 _ rfl
  have f2 := hf 2 _ rfl
  rw [List.getElem?_eq_getElem (by omega)] at f0 f1 f2
  obtain ⟨n0, e0, -, w0⟩ := DataW.trod_int Tryd.underlying3 f0
  obtain ⟨n1, e1, -, w1⟩ := DataW.trod_int Tryd.underlying3 f1
  obtain ⟨ys, m, -, -, -, hyl, hg⟩ := DataW.trod_array Tryd.underlying24 f2
  have g0 : cs[0]? = some (.int .i64 n0) := take_one e0
  have g1 : cs[1]? = some (.int .i64 n1) := take_one e1
  obtain ⟨a, b, s, e, hs, ha, hb⟩ := RowPtrVal.ptr_list cs hl (fun i x hx => ⟨fun h2 => by
    rcases (show i = 0 ∨ i = 1 by omega) with rfl | rfl
    · rw [g0] at hx; exact ⟨n0, (Option.some.inj hx).symm, w0⟩
    · rw [g1] at hx; exact ⟨n1, (Option.some.inj hx).symm, w1⟩, fun h2 => by
    have hi : i < 34 := by
      have := (List.getElem?_eq_some_iff.1 hx).1
      omega
    obtain ⟨k, rfl⟩ : ∃ k, i = k + 2 := ⟨i - 2, by omega⟩
    have hk := hg k (by omega)
    rw [List.getElem?_eq_getElem (by omega), cells_u, Nat.mul_one] at hk
    obtain ⟨u, eu, -, wu⟩ := DataW.trod_int Tryd.underlying5 hk
    have := take_one eu
    have e3 : ((cs.drop 2).take (Tryd.prog.cellsOf 24))[k]? = cs[k + 2]? := by
      rw [cells_s, List.getElem?_take_of_lt (by omega), List.getElem?_drop, Nat.add_comm]
    have e4 : cs[k + 2]? = some (.int .u8 u) := e3.symm.trans this
    rw [hx] at e4
    exact ⟨u, Option.some.inj e4, wu⟩⟩)
  exact ⟨⟨a, b, s⟩, e, ⟨hs, ha, hb⟩⟩
/-- A SLICE OF POINTERS, OPENED. -/
theorem open_ptrs {ts : List TypeId} {ds : List (DataW H)} {j : Nat} {b0 : Nat} {v : Value} {d : DataW H} {p : List MemPlace}
    (hsz : (DataW.weightsEach Tryd.prog ts ds).all (· ≤ reachBytes) = true) (hj : ts[j]? = some 42) (hd : ds[j]? = some d)
    (hv : Value.okWide Tryd.prog W .any b0 42 v) (h : DataW.Trod enc Tryd.prog W 0 (fun _ => true) true 42 v d p) :
    ∃ (a : Option Addr) (n c : Nat) (ls : List V3), v = .slice a n c ∧ ls.length = n ∧ RdV W a ls ∧ (∀ v ∈ ls, v.ok) ∧ n ≤ c ∧ c ≤ 9223372036854775807 ∧ n ≤ 140737488351232 := by
  obtain ⟨fuel, hf⟩ := h
  have hvc : ∃ a n c, v = .slice a n c := by
    unfold Value.okWide at hv
    rw [Tryd.underlying42] at hv
    unfold Cell.okWide at hv
    rw [Tryd.underlying42] at hv
    unfold Cell.ok at hv
    rw [Tryd.underlying42] at hv
    cases v <;> first | exact ⟨_, _, _, rfl⟩ | exact hv.elim
  obtain ⟨a, n, c, rfl⟩ := hvc
  rcases Deep.open_slice Tryd.underlying42 hf with ⟨h1, -⟩ | ⟨x, len, cap, m, k, D, Pl, h1, -, h3, h4, h5, h6, h7⟩
  · simp only [Value.cells, List.cons.injEq, Value.slice.injEq, and_true] at h1
    obtain ⟨rfl, rfl, rfl⟩ := h1
    exact ⟨none, 0, 0, [], rfl, rfl, fun i hi => by simp at hi, fun v hv => by simp at hv, Nat.le_refl _, by omega, by omega⟩
  · simp only [Value.cells, List.cons.injEq, Value.slice.injEq, and_true] at h1
    obtain ⟨rfl, rfl, rfl⟩ := h1
    have hm : maxLen = 9223372036854775807 := rfl
    have hlm : n ≤ m := by rw [h5]; split <;> omega
    simp only [Prod.mk.injEq] at h6
    have hsize := sized_slice hsz hj (hd.trans (congrArg some h6.1)) Tryd.underlying42
    rw [show Tryd.prog.bytesOf 26 = 48 by kernel_rfl] at hsize
    have hz : (140737488351232 : Nat) = reachBytes := by decide
    have each : ∀ i, i < n → ∃ v : V3, v.ok ∧ ∀ j u, v.pc[j]? = some u → W.cell? (x.add (i * 34 + j)) = some u := fun i hi => by
      obtain ⟨cs, c1, c2⟩ := h7 i (by omega)
      obtain ⟨v, rfl, hok⟩ := ptr_cells c2
      rw [cells_p] at c1
      obtain ⟨-, hlen, hc⟩ := World.cells?_some c1
      refine ⟨v, hok, fun j u hj => ?_⟩
      have hjl : j < 34 := by
        have := (List.getElem?_eq_some_iff.1 hj).1
        omega
      have := hc j hjl
      rw [Deep.add_add, hj] at this
      exact this
    have : Inhabited V3 := ⟨hol⟩
    obtain ⟨f, hfv⟩ := Deep.choose_lt each
    obtain ⟨b, o, sp⟩ := x
    refine ⟨some ⟨b, o, sp⟩, n, c, (List.range n).map f, rfl, by simp, ?_, ?_, h3, by omega, ?_⟩
    · intro i hi
      rw [List.length_map, List.length_range] at hi
      have hfi := (hfv i hi).2
      have hsp : sp = none := by
        cases sp with
        | none => rfl
        | some s' =>
          have h0 := (hfv 0 (by omega)).2 0 (.int .i64 (f 0).a) rfl
          rw [Nat.zero_mul] at h0
          simp only [Addr.add, if_true, World.cell?] at h0
          split at h0 <;> simp at h0
      subst hsp
      refine ⟨b, o, rfl, fun j u hj => ?_⟩
      rw [List.getElem_map, List.getElem_range] at hj
      have := hfi j u hj
      rw [add_form] at this
      rw [Nat.add_assoc]
      exact this
    · intro v hv
      obtain ⟨i, hi, rfl⟩ := List.mem_map.1 hv
      exact (hfv i (List.mem_range.1 hi)).1
    · simp at hsize
      omega
end

end Go.Proofs.YtjkaenhopkigdaaDoor.RowPtrs
