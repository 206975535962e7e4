/- What the listed variables of sha give the walks. -/
import Derived.Test.YtlleandelcjhjaaDoorShaPlain
import Derived.Test.YtlleandelcjhjaaDoorShaRef
import Derived.Test.YtlleandelcjhjaaDoorRows
import Derived.Test.YtlleandelcjhjaaDoorRowKit
import Derived.ProofKit
import Derived.LaidMore
import Derived.OpenShut
import Derived.Stop.Joined
set_option maxRecDepth 100000
set_option linter.unusedVariables false
set_option linter.unusedSimpArgs false
namespace Go.Proofs.YtlleandelcjhjaaDoor.ShaLaid
open Go Go.RowKit Go.Proofs.YtlleandelcjhjaaDoor.K Go.Proofs.YtlleandelcjhjaaDoor.ShaRot Go.Proofs.YtlleandelcjhjaaDoor.ArrKit Go.Proofs.YtlleandelcjhjaaDoor.ShaSpread Go.Proofs.YtlleandelcjhjaaDoor.ShaStep Go.Proofs.YtlleandelcjhjaaDoor.ShaRef

def laid2 : List (String × DataW Unit) := [("lazaret/sha.begins", Rows.laid_lazaret_sha_begins), ("lazaret/sha.cubes", Rows.laid_lazaret_sha_cubes)]
theorem gBegins : Tryd.prog.globalNamed "lazaret/sha.begins" = some 0 := by kernel_rfl
theorem gCubes : Tryd.prog.globalNamed "lazaret/sha.cubes" = some 1 := by kernel_rfl
theorem tBegins : (Tryd.prog.globals[0]?).map (·.type) = some 99 := by kernel_rfl
theorem tCubes : (Tryd.prog.globals[1]?).map (·.type) = some 114 := by kernel_rfl
/-- The door's own heap meets the condition. -/
theorem door_met (os : Os) (args : Array Value) : laidMetH Tryd.prog laid2 ((World.doorLaid Tryd.prog 400 os).forCall (fun _ _ => 0) ⟨#[], args, []⟩).memory :=
  laidMetH_of_parts3 (fuel := 8) (laidMet_of_run' 8 (by kernel_rfl) (by kernel_rfl)) (by kernel_rfl) (by kernel_rfl)
theorem int_of_trod {H : Type} {enc : TypeId × Value → H} {P : Program} {w : World} {base : Nat} {sp : Nat → Bool} {held : Bool} {fuel : Nat} {t : TypeId} {k : IntKind} {c : Value} {y : DataW H × List MemPlace}
    (ht : P.underlying t = some (.int k)) (h : DataW.trod enc P w base sp held fuel t [c] = some y) : ∃ n, c = .int k n ∧ y = (.lit (.int k n), []) := by
  cases fuel with
  | zero => simp [DataW.trod] at h
  | succ fuel =>
    cases c <;> simp [DataW.trod, ht] at h
    rename_i k' n
    obtain ⟨⟨rfl, _⟩, rfl⟩ := h
    exact ⟨n, rfl, rfl⟩
theorem laid_row {H : Type} {enc : TypeId × Value → H} {P : Program} {w : World} {base : Nat} {sp : Nat → Bool} {held : Bool} {fuel n : Nat} {t e : TypeId} {k : IntKind} {cs : List Value} {zs : List Int} {d : DataW H} {p : List MemPlace}
    (ht : P.underlying t = some (.array n e)) (he : P.underlying e = some (.int k)) (hce : P.cellsOf e = 1) (hct : P.cellsOf t = n)
    (h : DataW.trod enc P w base sp held fuel t cs = some (d, p)) (hd : d = .agg (zs.map fun z => .lit (.int k z))) : cs = zs.map (.int k ·) := by
  obtain ⟨xs, m, -, hx, hlen, hxn, hel⟩ := DataW.trod_array ht h
  simp only [Prod.mk.injEq] at hx
  obtain ⟨hx1, -⟩ := hx
  rw [hd] at hx1
  simp only [DataW.agg.injEq] at hx1
  have hzn : zs.length = n := by have := congrArg List.length hx1; simpa [hxn] using this
  rw [hct] at hlen
  apply List.ext_getElem?
  intro i
  by_cases hi : i < n
  · have h1 := hel i hi
    rw [hce, Nat.mul_one, List.drop_eq_getElem_cons (by omega), List.take_succ_cons, List.take_zero, List.getElem?_eq_getElem (by omega)] at h1
    obtain ⟨v, e1, e2⟩ := int_of_trod he h1
    have h3 : (zs.map fun z => (DataW.lit (.int k z) : DataW H))[i]? = (xs.map (·.1))[i]? := by rw [hx1]
    rw [List.getElem?_map, List.getElem?_map, List.getElem?_eq_getElem (by omega), List.getElem?_eq_getElem (by omega), e2] at h3
    simp only [Option.map_some, Option.some.injEq, DataW.lit.injEq, Lit.int.injEq, true_and] at h3
    rw [List.getElem?_eq_getElem (by omega), e1, List.getElem?_map, List.getElem?_eq_getElem (by omega), Option.map_some, h3]
  · rw [List.getElem?_eq_none (by omega), List.getElem?_eq_none (by simp; omega)]
theorem begins_d : (Rows.laid_lazaret_sha_begins : DataW Unit) = .agg ((begins.list.map fun z : Nat => (z : Int)).map fun z => .lit (.int .u32 z)) := by kernel_rfl
theorem cubes_d : (Rows.laid_lazaret_sha_cubes : DataW Unit) = .agg ((cubes.map fun z : Nat => (z : Int)).map fun z => .lit (.int .u32 z)) := by kernel_rfl
theorem bk_of_var {P : Program} {W : World} {nm : String} {g : Nat} {cs : Array Value} {ps : List MemPlace} (hg : P.globalNamed nm = some g) (hv : W.var? P nm = some cs) (h0 : MemPlace.cell g 0 ∈ ps)
    (hf : ∀ b off, MemPlace.cell b off ∈ ps → (∃ c t, W.heap[b]? = some (.cells c t (0, 0))) ∧ ∀ u v, W.cell? ⟨b, off, none⟩ = some (.iface u v) → Value.okWide P W .any 0 u v) : ∃ t, Bk W g cs t := by
  obtain ⟨⟨c, t, hc⟩, -⟩ := hf g 0 h0
  unfold World.var? at hv
  rw [hg] at hv
  simp only [Option.bind_some, hc, Option.some.injEq] at hv
  subst hv
  exact ⟨t, hc⟩
/-- WHAT THE CONDITION GIVES THE WALKS. -/
theorem of_laid {W : World} (h : laidMetH Tryd.prog laid2 W) : (∃ t, Bk W 1 KC t) ∧ ∃ t, Bk W 0 HB8 t := by
  rw [MakeChecks.laidMetH_plain _ _ _ (by kernel_rfl)] at h
  obtain ⟨ps, ⟨g0, t0, cs0, f0, p0, q0, hg0, ht0, hv0, hd0, ⟨g1, t1, cs1, f1, p1, q1, hg1, ht1, hv1, hd1, hnil, he1⟩, he0⟩, hnd, hfree⟩ := h
  obtain rfl := Option.some.inj (gBegins.symm.trans hg0)
  obtain rfl := Option.some.inj (gCubes.symm.trans hg1)
  obtain rfl := Option.some.inj (tBegins.symm.trans ht0)
  obtain rfl := Option.some.inj (tCubes.symm.trans ht1)
  have c1 := laid_row Tryd.underlying99 Tryd.underlying98 (by kernel_rfl) (by kernel_rfl) hd0 begins_d
  have c0 := laid_row Tryd.underlying114 Tryd.underlying98 (by kernel_rfl) (by kernel_rfl) hd1 cubes_d
  have k1 : cs0 = HB8 := by
    apply Array.ext'
    rw [c1]
    simp [HB8, U]
  have k0 : cs1 = KC := by
    apply Array.ext'
    rw [c0]
    simp [KC, U]
  subst k0 k1
  refine ⟨bk_of_var gCubes hv1 ?_ hfree, bk_of_var gBegins hv0 ?_ hfree⟩
  · rw [he0, he1]
    simp [MemPlace.row, KC, cubes]
  · rw [he0]
    simp [MemPlace.row, HB8, S8.list]

end Go.Proofs.YtlleandelcjhjaaDoor.ShaLaid
